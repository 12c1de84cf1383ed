/- Automata: the laws' comparisons. -/
import Derived.Test.YtpfbkblgefddlaaCtAuto1
namespace Go.Proofs.Ytpfbkblgefddlaa.Ct
set_option linter.unusedSimpArgs false
set_option linter.unusedVariables false
open Go Go.Proofs Go.Proofs.Ytpfbkblgefddlaa.Av

def c_laws_eqEdge : ICode := (.seq (.reg [⟨(some 2), (.box 4), [(.t 0)], none⟩, ⟨(some 3), (.box 4), [(.t 1)], none⟩, ⟨(some 4), .mv, [(.c (.bool false))], none⟩]) (.seq (.seq (.reg [⟨(some 5), (.fadr 0), [(.t 2)], none⟩, ⟨(some 6), .ld1, [(.t 5)], none⟩, ⟨(some 7), (.fadr 0), [(.t 3)], none⟩, ⟨(some 8), .ld1, [(.t 7)], none⟩, ⟨(some 9), (.bin .neq), [(.t 6), (.t 8)], none⟩]) (.cond (.t 9) (.seq (.reg [⟨(some 4), .mv, [(.c (.bool false))], none⟩]) .ret) .skip)) (.seq (.seq (.reg [⟨(some 10), (.fadr 1), [(.t 2)], none⟩, ⟨(some 11), .ld1, [(.t 10)], none⟩, ⟨(some 12), (.fadr 1), [(.t 3)], none⟩, ⟨(some 13), .ld1, [(.t 12)], none⟩, ⟨(some 14), (.bin .neq), [(.t 11), (.t 13)], none⟩]) (.cond (.t 14) (.seq (.reg [⟨(some 4), .mv, [(.c (.bool false))], none⟩]) .ret) .skip)) (.seq (.seq (.reg [⟨(some 15), (.fadr 2), [(.t 2)], none⟩, ⟨(some 16), .ld1, [(.t 15)], none⟩, ⟨(some 17), (.fadr 2), [(.t 3)], none⟩, ⟨(some 18), .ld1, [(.t 17)], none⟩, ⟨(some 19), (.bin .neq), [(.t 16), (.t 18)], none⟩]) (.cond (.t 19) (.seq (.reg [⟨(some 4), .mv, [(.c (.bool false))], none⟩]) .ret) .skip)) (.seq (.seq (.reg [⟨(some 20), (.fadr 3), [(.t 2)], none⟩, ⟨(some 21), .ld1, [(.t 20)], none⟩, ⟨(some 22), (.fadr 3), [(.t 3)], none⟩, ⟨(some 23), .ld1, [(.t 22)], none⟩, ⟨(some 24), (.beq true), [(.t 21), (.t 23)], none⟩]) (.cond (.t 24) (.seq (.reg [⟨(some 4), .mv, [(.c (.bool false))], none⟩]) .ret) .skip)) (.seq (.reg [⟨(some 4), .mv, [(.c (.bool true))], none⟩]) .ret))))))
theorem b_laws_eqEdge : Body Try.prog 143 25 c_laws_eqEdge [(.t 4)] := body_mk Try.func143 (by kernel_rfl) (by decide)

def c_laws_eqEdgeS : ICode := (.seq (.reg [⟨(some 4), .mv, [(.c (.bool false))], none⟩]) (.seq (.seq (.reg [⟨(some 6), .mv, [(.t 0)], none⟩, ⟨(some 7), .len, [(.t 6)], none⟩, ⟨(some 8), .mv, [(.t 1)], none⟩, ⟨(some 9), .len, [(.t 8)], none⟩, ⟨(some 10), (.bin .neq), [(.t 7), (.t 9)], none⟩]) (.cond (.t 10) (.seq (.reg [⟨(some 4), .mv, [(.c (.bool false))], none⟩]) .ret) .skip)) (.seq (.seq (.reg [⟨(some 5), .mv, [(.c (.int .i64 0))], none⟩]) (.block 0 (.loop (.seq (.seq (.reg [⟨(some 11), .mv, [(.t 5)], none⟩, ⟨(some 12), .mv, [(.t 0)], none⟩, ⟨(some 13), .len, [(.t 12)], none⟩, ⟨(some 14), (.bin .lss), [(.t 11), (.t 13)], none⟩]) (.cond (.t 14) .skip (.exit 0))) (.seq (.block 1 (.seq (.drw [⟨(some 17), .mv, [(.t 0)], none⟩, ⟨(some 18), .mv, [(.t 5)], none⟩, ⟨(some 19), (.iadr 4), [(.t 17), (.t 18)], none⟩, ⟨(some 20), (.ldn 4), [(.t 19)], none⟩, ⟨(some 21), .mv, [(.t 1)], none⟩, ⟨(some 22), .mv, [(.t 5)], none⟩, ⟨(some 23), (.iadr 4), [(.t 21), (.t 22)], none⟩, ⟨(some 24), (.ldn 4), [(.t 23)], none⟩, ⟨(some 25), (.call 143), [(.t 20), (.t 24)], none⟩, ⟨(some 26), .not, [(.t 25)], none⟩] [[], [], [0, 1], [0, 1, 2], [], [], [4, 5], [4, 5, 6], [0, 1, 2, 3, 4, 5, 6, 7], [0, 1, 2, 3, 4, 5, 6, 7, 8]] true true) (.cond (.t 26) (.seq (.reg [⟨(some 4), .mv, [(.c (.bool false))], none⟩]) .ret) .skip))) (.reg [⟨(some 15), .mv, [(.t 5)], none⟩, ⟨(some 16), (.bin .add), [(.t 15), (.c (.int .i64 1))], none⟩, ⟨(some 5), .mv, [(.t 16)], none⟩])))))) (.seq (.reg [⟨(some 4), .mv, [(.c (.bool true))], none⟩]) .ret))))
theorem b_laws_eqEdgeS : Body Try.prog 92 27 c_laws_eqEdgeS [(.t 4)] := body_mk Try.func92 (by kernel_rfl) (by decide)

def c_laws_eqAuto : ICode := (.seq (.reg [⟨(some 2), (.box 4), [(.t 0)], none⟩, ⟨(some 3), (.box 4), [(.t 1)], none⟩, ⟨(some 4), .mv, [(.c (.bool false))], none⟩]) (.seq (.seq (.reg [⟨(some 5), (.fadr 0), [(.t 2)], none⟩, ⟨(some 6), .ld1, [(.t 5)], none⟩, ⟨(some 7), (.fadr 0), [(.t 3)], none⟩, ⟨(some 8), .ld1, [(.t 7)], none⟩, ⟨(some 9), (.bin .neq), [(.t 6), (.t 8)], none⟩]) (.cond (.t 9) (.seq (.reg [⟨(some 4), .mv, [(.c (.bool false))], none⟩]) .ret) .skip)) (.seq (.seq (.reg [⟨(some 10), (.fadr 1), [(.t 2)], none⟩, ⟨(some 11), .ld1, [(.t 10)], none⟩, ⟨(some 12), (.fadr 1), [(.t 3)], none⟩, ⟨(some 13), .ld1, [(.t 12)], none⟩, ⟨(some 14), (.bin .neq), [(.t 11), (.t 13)], none⟩]) (.cond (.t 14) (.seq (.reg [⟨(some 4), .mv, [(.c (.bool false))], none⟩]) .ret) .skip)) (.seq (.seq (.reg [⟨(some 15), (.fadr 2), [(.t 2)], none⟩, ⟨(some 16), .ld1, [(.t 15)], none⟩, ⟨(some 17), (.fadr 2), [(.t 3)], none⟩, ⟨(some 18), .ld1, [(.t 17)], none⟩, ⟨(some 19), (.bin .neq), [(.t 16), (.t 18)], none⟩]) (.cond (.t 19) (.seq (.reg [⟨(some 4), .mv, [(.c (.bool false))], none⟩]) .ret) .skip)) (.seq (.seq (.reg [⟨(some 20), (.fadr 3), [(.t 2)], none⟩, ⟨(some 21), .ld1, [(.t 20)], none⟩, ⟨(some 22), (.fadr 3), [(.t 3)], none⟩, ⟨(some 23), .ld1, [(.t 22)], none⟩, ⟨(some 24), (.call 92), [(.t 21), (.t 23)], none⟩, ⟨(some 25), .not, [(.t 24)], none⟩]) (.cond (.t 25) (.seq (.reg [⟨(some 4), .mv, [(.c (.bool false))], none⟩]) .ret) .skip)) (.seq (.reg [⟨(some 4), .mv, [(.c (.bool true))], none⟩]) .ret))))))
theorem b_laws_eqAuto : Body Try.prog 34 26 c_laws_eqAuto [(.t 4)] := body_mk Try.func34 (by kernel_rfl) (by decide)

def c_laws_eqNamed : ICode := (.seq (.reg [⟨(some 2), (.box 5), [(.t 0)], none⟩, ⟨(some 3), (.box 5), [(.t 1)], none⟩, ⟨(some 4), .mv, [(.c (.bool false))], none⟩]) (.seq (.seq (.reg [⟨(some 5), (.fadr 0), [(.t 2)], none⟩, ⟨(some 6), .ld1, [(.t 5)], none⟩, ⟨(some 7), (.fadr 0), [(.t 3)], none⟩, ⟨(some 8), .ld1, [(.t 7)], none⟩, ⟨(some 9), (.bin .neq), [(.t 6), (.t 8)], none⟩]) (.cond (.t 9) (.seq (.reg [⟨(some 4), .mv, [(.c (.bool false))], none⟩]) .ret) .skip)) (.seq (.seq (.reg [⟨(some 10), (.fadr 1), [(.t 2)], none⟩, ⟨(some 11), (.ldn 4), [(.t 10)], none⟩, ⟨(some 12), (.fadr 1), [(.t 3)], none⟩, ⟨(some 13), (.ldn 4), [(.t 12)], none⟩, ⟨(some 14), (.call 34), [(.t 11), (.t 13)], none⟩, ⟨(some 15), .not, [(.t 14)], none⟩]) (.cond (.t 15) (.seq (.reg [⟨(some 4), .mv, [(.c (.bool false))], none⟩]) .ret) .skip)) (.seq (.reg [⟨(some 4), .mv, [(.c (.bool true))], none⟩]) .ret))))
theorem b_laws_eqNamed : Body Try.prog 74 16 c_laws_eqNamed [(.t 4)] := body_mk Try.func74 (by kernel_rfl) (by decide)

def c_laws_eqNamedS : ICode := (.seq (.reg [⟨(some 4), .mv, [(.c (.bool false))], none⟩]) (.seq (.seq (.reg [⟨(some 6), .mv, [(.t 0)], none⟩, ⟨(some 7), .len, [(.t 6)], none⟩, ⟨(some 8), .mv, [(.t 1)], none⟩, ⟨(some 9), .len, [(.t 8)], none⟩, ⟨(some 10), (.bin .neq), [(.t 7), (.t 9)], none⟩]) (.cond (.t 10) (.seq (.reg [⟨(some 4), .mv, [(.c (.bool false))], none⟩]) .ret) .skip)) (.seq (.seq (.reg [⟨(some 5), .mv, [(.c (.int .i64 0))], none⟩]) (.block 0 (.loop (.seq (.seq (.reg [⟨(some 11), .mv, [(.t 5)], none⟩, ⟨(some 12), .mv, [(.t 0)], none⟩, ⟨(some 13), .len, [(.t 12)], none⟩, ⟨(some 14), (.bin .lss), [(.t 11), (.t 13)], none⟩]) (.cond (.t 14) .skip (.exit 0))) (.seq (.block 1 (.seq (.drw [⟨(some 17), .mv, [(.t 0)], none⟩, ⟨(some 18), .mv, [(.t 5)], none⟩, ⟨(some 19), (.iadr 5), [(.t 17), (.t 18)], none⟩, ⟨(some 20), (.ldn 5), [(.t 19)], none⟩, ⟨(some 21), .mv, [(.t 1)], none⟩, ⟨(some 22), .mv, [(.t 5)], none⟩, ⟨(some 23), (.iadr 5), [(.t 21), (.t 22)], none⟩, ⟨(some 24), (.ldn 5), [(.t 23)], none⟩, ⟨(some 25), (.call 74), [(.t 20), (.t 24)], none⟩, ⟨(some 26), .not, [(.t 25)], none⟩] [[], [], [0, 1], [0, 1, 2], [], [], [4, 5], [4, 5, 6], [0, 1, 2, 3, 4, 5, 6, 7], [0, 1, 2, 3, 4, 5, 6, 7, 8]] true true) (.cond (.t 26) (.seq (.reg [⟨(some 4), .mv, [(.c (.bool false))], none⟩]) .ret) .skip))) (.reg [⟨(some 15), .mv, [(.t 5)], none⟩, ⟨(some 16), (.bin .add), [(.t 15), (.c (.int .i64 1))], none⟩, ⟨(some 5), .mv, [(.t 16)], none⟩])))))) (.seq (.reg [⟨(some 4), .mv, [(.c (.bool true))], none⟩]) .ret))))
theorem b_laws_eqNamedS : Body Try.prog 22 27 c_laws_eqNamedS [(.t 4)] := body_mk Try.func22 (by kernel_rfl) (by decide)


def REqEdge (xs : List AV) (r : AV) (objs : List AObj) : Prop := ∃ x y, xs = [.agg (edgeRow x), .agg (edgeRow y)] ∧ r = .bool (decide (x = y)) ∧ objs = []
theorem REqEdge_mk {x y : EdgeD} : REqEdge [.agg (edgeRow x), .agg (edgeRow y)] (.bool (decide (x = y))) [] := ⟨x, y, rfl, rfl, rfl⟩

theorem edge_eq_iff {x y : EdgeD} : x = y ↔ x.src = y.src ∧ x.letter = y.letter ∧ x.dst = y.dst ∧ x.mark = y.mark := by
  cases x; cases y; simp

theorem s_laws_eqEdge : PureSound Try.prog 143 REqEdge := by
  have hR : Rely Try.prog (ctxOf []) := rely_nil mixed
  refine pure_of_aw b_laws_eqEdge ?_
  rintro xs r objs ⟨x, y, rfl, rfl, rfl⟩ -
  refine ⟨by simp, vc2_sound hR _ _ _ _ _ ?_⟩
  conv => whnf
  repeat' ((first
    | contradiction
    | (refine And.intro (fun hb => ?_) (fun hb => ?_) <;> first | contradiction | ((try simp only [SB, reduceCtorEq] at hb); try (exfalso; first | contradiction | omega)))
    | refine And.intro rfl ?_
    | refine ⟨_, IntWalk.i64_in _ (by omega), ?_⟩
    | rw [ints_at (by omega)]
    | rw [ints_at0 (by omega)]
    | rw [ints_at' (by omega) (by omega)]
    | refine And.intro (lens_all rfl) ?_
    | refine And.intro (show _ ≤ _ ∧ (_ + 1) * _ ≤ _ ∧ _ + 1 ≤ _ by first | omega | (simp; omega)) ?_
    | refine And.intro (show 1 * _ ≤ _ ∧ 1 ≤ _ by omega) ?_
    | refine And.intro (by first | omega | (simp; omega) | (show _ ∧ _; simp; done)) ?_
    | fail) <;> conv => whnf)
  all_goals
    refine ⟨.inl rfl, ?_⟩
    conv => whnf
    refine ⟨[], ⟨rfl, trivial⟩, ?_, rfl, rfl⟩
    conv => whnf
    left
    conv => lhs; whnf
    refine congrArg AV.bool ?_
    simp_all [edge_eq_iff]

theorem eq_of_getDD {α : Type} [Inhabited α] {a b : List α} (h : a.length = b.length) (hj : ∀ j, j < a.length → a.getD j default = b.getD j default) : a = b := by
  apply List.ext_getElem h
  intro i h1 h2
  have := hj i h1
  simpa [List.getD_eq_getElem?_getD, List.getElem?_eq_getElem h1, List.getElem?_eq_getElem h2] using this

def REqEdgeS (xs : List AV) (r : AV) (objs : List AObj) : Prop := ∃ a b, xs = [.val (edgeRows a), .val (edgeRows b)] ∧ r = .bool (decide (a = b)) ∧ objs = []
theorem REqEdgeS_mk {a b : List EdgeD} : REqEdgeS [.val (edgeRows a), .val (edgeRows b)] (.bool (decide (a = b))) [] := ⟨a, b, rfl, rfl, rfl⟩

theorem s_laws_eqEdgeS : PureSound Try.prog 92 REqEdgeS := by
  have hR : Rely Try.prog (ctxOf [(143, .pure REqEdge)]) := rely_cons b_laws_eqEdge.has s_laws_eqEdge (rely_nil mixed)
  refine pure_of_aw b_laws_eqEdgeS ?_
  rintro xs r objs ⟨a, b, rfl, rfl, rfl⟩ ⟨w, own, vs, hrel⟩
  have hl : (edgeRows a).length ≤ 9223372036854775807 := by
    obtain ⟨v, hv⟩ := rels_at hrel (i := 0) rfl
    exact rel_len hv
  rw [length_edgeRows] at hl
  clear hrel
  have ha := length_edgeRows a
  have hb' := length_edgeRows b
  refine ⟨by simp, vc2_sound hR _ _ _ _ _ ?_⟩
  conv => whnf
  repeat' ((first
    | contradiction
    | (refine And.intro (fun hb => ?_) (fun hb => ?_) <;> first | contradiction | ((try simp only [SB, reduceCtorEq] at hb); try (exfalso; first | contradiction | omega)))
    | refine And.intro rfl ?_
    | refine ⟨_, IntWalk.i64_in _ (by omega), ?_⟩
    | rw [ints_at (by omega)]
    | rw [ints_at0 (by omega)]
    | rw [ints_at' (by omega) (by omega)]
    | refine And.intro (lens_all rfl) ?_
    | refine And.intro (show _ ≤ _ ∧ (_ + 1) * _ ≤ _ ∧ _ + 1 ≤ _ by first | omega | (simp; omega)) ?_
    | refine And.intro (show 1 * _ ≤ _ ∧ 1 ≤ _ by omega) ?_
    | refine And.intro (by first | omega | (simp; omega) | (show _ ∧ _; simp; done)) ?_
    | fail) <;> conv => whnf)
  · refine ⟨.inl rfl, ?_⟩
    conv => whnf
    refine ⟨[], ⟨rfl, trivial⟩, ?_, rfl, rfl⟩
    conv => whnf
    left
    conv => lhs; whnf
    refine congrArg AV.bool (Eq.symm (decide_eq_false ?_))
    intro h; subst h; exact hb rfl
  · refine Lp.intro (α := Nat) (fun i => i ≤ a.length ∧ ∀ j, j < i → a.getD j default = b.getD j default) (fun i => a.length - i) (fun i => [(0, .val (edgeRows a)), (1, .val (edgeRows b)), (5, .int .i64 i)]) (fun _ => []) ?_ ?_
    · refine ⟨0, ⟨by omega, by omega⟩, [], rfl, rfl, trivial, ?_⟩
      repeat' (first
        | exact trivial
        | refine ⟨?_, ?_⟩
        | fail)
      all_goals first
        | with_reducible rfl
        | (conv => whnf
           try left
           conv => lhs; whnf
           first
             | rfl
             | exact congrArg (AV.int .i64) (by omega)
             | skip)
    · rintro i ⟨hi, hall⟩
      refine vc2_sound hR _ _ _ _ _ ?_
      by_cases hlt : i < a.length
      · conv => whnf
        repeat' ((first
          | contradiction
          | (refine And.intro (fun hb => ?_) (fun hb => ?_) <;> first | contradiction | ((try simp only [SB, reduceCtorEq] at hb); try (exfalso; first | contradiction | omega)))
          | refine And.intro rfl ?_
          | refine ⟨_, IntWalk.i64_in _ (by omega), ?_⟩
          | rw [ints_at (by omega)]
          | rw [ints_at0 (by omega)]
          | rw [ints_at' (by omega) (by omega)]
          | refine And.intro (lens_all rfl) ?_
          | refine And.intro (show _ ≤ _ ∧ (_ + 1) * _ ≤ _ ∧ _ + 1 ≤ _ by first | omega | (simp; omega)) ?_
          | refine And.intro (show 1 * _ ≤ _ ∧ 1 ≤ _ by omega) ?_
          | refine And.intro (by first | omega | (simp; omega) | (show _ ∧ _; simp; done)) ?_
          | fail) <;> conv => whnf)
        rw [show (edgeRows a)[((i : Nat) : Int).toNat]? = some (edgeRow (a.getD i default)) from map_at hlt]
        conv => whnf
        repeat' ((first
          | contradiction
          | (refine And.intro (fun hb => ?_) (fun hb => ?_) <;> first | contradiction | ((try simp only [SB, reduceCtorEq] at hb); try (exfalso; first | contradiction | omega)))
          | refine And.intro rfl ?_
          | refine ⟨_, IntWalk.i64_in _ (by omega), ?_⟩
          | rw [ints_at (by omega)]
          | rw [ints_at0 (by omega)]
          | rw [ints_at' (by omega) (by omega)]
          | refine And.intro (lens_all rfl) ?_
          | refine And.intro (show _ ≤ _ ∧ (_ + 1) * _ ≤ _ ∧ _ + 1 ≤ _ by first | omega | (simp; omega)) ?_
          | refine And.intro (show 1 * _ ≤ _ ∧ 1 ≤ _ by omega) ?_
          | refine And.intro (by first | omega | (simp; omega) | (show _ ∧ _; simp; done)) ?_
          | fail) <;> conv => whnf)
        rw [show (edgeRows b)[((i : Nat) : Int).toNat]? = some (edgeRow (b.getD i default)) from map_at (by omega)]
        conv => whnf
        repeat' ((first
          | contradiction
          | (refine And.intro (fun hb => ?_) (fun hb => ?_) <;> first | contradiction | ((try simp only [SB, reduceCtorEq] at hb); try (exfalso; first | contradiction | omega)))
          | refine And.intro rfl ?_
          | refine ⟨_, IntWalk.i64_in _ (by omega), ?_⟩
          | rw [ints_at (by omega)]
          | rw [ints_at0 (by omega)]
          | rw [ints_at' (by omega) (by omega)]
          | refine And.intro (lens_all rfl) ?_
          | refine And.intro (show _ ≤ _ ∧ (_ + 1) * _ ≤ _ ∧ _ + 1 ≤ _ by first | omega | (simp; omega)) ?_
          | refine And.intro (show 1 * _ ≤ _ ∧ 1 ≤ _ by omega) ?_
          | refine And.intro (by first | omega | (simp; omega) | (show _ ∧ _; simp; done)) ?_
          | refine ⟨_, _, REqEdge_mk (x := a.getD i default) (y := b.getD i default), ?_⟩
          | fail) <;> conv => whnf)
        · refine ⟨i + 1, ⟨by omega, fun j hj => ?_⟩, by omega, [], rfl, rfl, trivial, ?_⟩
          · by_cases hji : j = i
            · subst hji; exact hb
            · exact hall j (by omega)
          · repeat' (first
              | exact trivial
              | refine ⟨?_, ?_⟩
              | fail)
            all_goals first
              | with_reducible rfl
              | (conv => whnf
                 try left
                 conv => lhs; whnf
                 first
                   | rfl
                   | exact congrArg (AV.int .i64) (by omega)
                   | skip)
        · refine ⟨.inl rfl, ?_⟩
          conv => whnf
          refine ⟨[], ⟨rfl, trivial⟩, ?_, rfl, rfl⟩
          conv => whnf
          left
          conv => lhs; whnf
          refine congrArg AV.bool (Eq.symm (decide_eq_false ?_))
          intro h; subst h; exact hb rfl
      · conv => whnf
        repeat' ((first
          | contradiction
          | (refine And.intro (fun hb => ?_) (fun hb => ?_) <;> first | contradiction | ((try simp only [SB, reduceCtorEq] at hb); try (exfalso; first | contradiction | omega)))
          | refine And.intro rfl ?_
          | refine ⟨_, IntWalk.i64_in _ (by omega), ?_⟩
          | rw [ints_at (by omega)]
          | rw [ints_at0 (by omega)]
          | rw [ints_at' (by omega) (by omega)]
          | refine And.intro (lens_all rfl) ?_
          | refine And.intro (show _ ≤ _ ∧ (_ + 1) * _ ≤ _ ∧ _ + 1 ≤ _ by first | omega | (simp; omega)) ?_
          | refine And.intro (show 1 * _ ≤ _ ∧ 1 ≤ _ by omega) ?_
          | refine And.intro (by first | omega | (simp; omega) | (show _ ∧ _; simp; done)) ?_
          | fail) <;> conv => whnf)
        refine ⟨.inl rfl, ?_⟩
        conv => whnf
        refine ⟨[], ⟨rfl, trivial⟩, ?_, rfl, rfl⟩
        conv => whnf
        left
        conv => lhs; whnf
        refine congrArg AV.bool (Eq.symm (decide_eq_true ?_))
        exact eq_of_getDD (by omega) (fun j hj => hall j (by omega))

def REqAuto (xs : List AV) (r : AV) (objs : List AObj) : Prop := ∃ x y, xs = [.agg (autoRow x), .agg (autoRow y)] ∧ r = .bool (decide (x = y)) ∧ objs = []
theorem REqAuto_mk {x y : AutoD} : REqAuto [.agg (autoRow x), .agg (autoRow y)] (.bool (decide (x = y))) [] := ⟨x, y, rfl, rfl, rfl⟩

theorem auto_eq_iff {x y : AutoD} : x = y ↔ x.letters = y.letters ∧ x.states = y.states ∧ x.start = y.start ∧ x.edges = y.edges := by
  cases x; cases y; simp

theorem s_laws_eqAuto : PureSound Try.prog 34 REqAuto := by
  have hR : Rely Try.prog (ctxOf [(92, .pure REqEdgeS)]) := rely_cons b_laws_eqEdgeS.has s_laws_eqEdgeS (rely_nil mixed)
  refine pure_of_aw b_laws_eqAuto ?_
  rintro xs r objs ⟨x, y, rfl, rfl, rfl⟩ -
  refine ⟨by simp, vc2_sound hR _ _ _ _ _ ?_⟩
  conv => whnf
  repeat' ((first
    | contradiction
    | (refine And.intro (fun hb => ?_) (fun hb => ?_) <;> first | contradiction | ((try simp only [SB, reduceCtorEq] at hb); try (exfalso; first | contradiction | omega)))
    | refine And.intro rfl ?_
    | refine ⟨_, IntWalk.i64_in _ (by omega), ?_⟩
    | rw [ints_at (by omega)]
    | rw [ints_at0 (by omega)]
    | rw [ints_at' (by omega) (by omega)]
    | refine And.intro (lens_all rfl) ?_
    | refine And.intro (show _ ≤ _ ∧ (_ + 1) * _ ≤ _ ∧ _ + 1 ≤ _ by first | omega | (simp; omega)) ?_
    | refine And.intro (show 1 * _ ≤ _ ∧ 1 ≤ _ by omega) ?_
    | refine And.intro (by first | omega | (simp; omega) | (show _ ∧ _; simp; done)) ?_
    | refine ⟨_, _, REqEdgeS_mk (a := x.edges) (b := y.edges), ?_⟩
    | fail) <;> conv => whnf)
  all_goals
    refine ⟨.inl rfl, ?_⟩
    conv => whnf
    refine ⟨[], ⟨rfl, trivial⟩, ?_, rfl, rfl⟩
    conv => whnf
    left
    conv => lhs; whnf
    refine congrArg AV.bool ?_
    simp_all [auto_eq_iff]

def REqNamed (xs : List AV) (r : AV) (objs : List AObj) : Prop := ∃ x y, xs = [.agg (namedRow x), .agg (namedRow y)] ∧ r = .bool (decide (x = y)) ∧ objs = []
theorem REqNamed_mk {x y : NamedD} : REqNamed [.agg (namedRow x), .agg (namedRow y)] (.bool (decide (x = y))) [] := ⟨x, y, rfl, rfl, rfl⟩

theorem named_eq_iff {x y : NamedD} : x = y ↔ x.name = y.name ∧ x.auto = y.auto := by
  cases x; cases y; simp

theorem s_laws_eqNamed : PureSound Try.prog 74 REqNamed := by
  have hR : Rely Try.prog (ctxOf [(34, .pure REqAuto)]) := rely_cons b_laws_eqAuto.has s_laws_eqAuto (rely_nil mixed)
  refine pure_of_aw b_laws_eqNamed ?_
  rintro xs r objs ⟨x, y, rfl, rfl, rfl⟩ -
  refine ⟨by simp, vc2_sound hR _ _ _ _ _ ?_⟩
  conv => whnf
  repeat' ((first
    | contradiction
    | (refine And.intro (fun hb => ?_) (fun hb => ?_) <;> first | contradiction | ((try simp only [SB, reduceCtorEq] at hb); try (exfalso; first | contradiction | omega)))
    | refine And.intro rfl ?_
    | refine ⟨_, IntWalk.i64_in _ (by omega), ?_⟩
    | rw [ints_at (by omega)]
    | rw [ints_at0 (by omega)]
    | rw [ints_at' (by omega) (by omega)]
    | refine And.intro (lens_all rfl) ?_
    | refine And.intro (show _ ≤ _ ∧ (_ + 1) * _ ≤ _ ∧ _ + 1 ≤ _ by first | omega | (simp; omega)) ?_
    | refine And.intro (show 1 * _ ≤ _ ∧ 1 ≤ _ by omega) ?_
    | refine And.intro (by first | omega | (simp; omega) | (show _ ∧ _; simp; done)) ?_
    | refine ⟨_, _, REqAuto_mk (x := x.auto) (y := y.auto), ?_⟩
    | fail) <;> conv => whnf)
  all_goals
    refine ⟨.inl rfl, ?_⟩
    conv => whnf
    refine ⟨[], ⟨rfl, trivial⟩, ?_, rfl, rfl⟩
    conv => whnf
    left
    conv => lhs; whnf
    refine congrArg AV.bool ?_
    simp_all [named_eq_iff]

def REqNamedS (xs : List AV) (r : AV) (objs : List AObj) : Prop := ∃ a b, xs = [.val (namedRows a), .val (namedRows b)] ∧ r = .bool (decide (a = b)) ∧ objs = []
theorem REqNamedS_mk {a b : List NamedD} : REqNamedS [.val (namedRows a), .val (namedRows b)] (.bool (decide (a = b))) [] := ⟨a, b, rfl, rfl, rfl⟩

theorem s_laws_eqNamedS : PureSound Try.prog 22 REqNamedS := by
  have hR : Rely Try.prog (ctxOf [(74, .pure REqNamed)]) := rely_cons b_laws_eqNamed.has s_laws_eqNamed (rely_nil mixed)
  refine pure_of_aw b_laws_eqNamedS ?_
  rintro xs r objs ⟨a, b, rfl, rfl, rfl⟩ ⟨w, own, vs, hrel⟩
  have hl : (namedRows a).length ≤ 9223372036854775807 := by
    obtain ⟨v, hv⟩ := rels_at hrel (i := 0) rfl
    exact rel_len hv
  rw [length_namedRows] at hl
  clear hrel
  have ha := length_namedRows a
  have hb' := length_namedRows b
  refine ⟨by simp, vc2_sound hR _ _ _ _ _ ?_⟩
  conv => whnf
  repeat' ((first
    | contradiction
    | (refine And.intro (fun hb => ?_) (fun hb => ?_) <;> first | contradiction | ((try simp only [SB, reduceCtorEq] at hb); try (exfalso; first | contradiction | omega)))
    | refine And.intro rfl ?_
    | refine ⟨_, IntWalk.i64_in _ (by omega), ?_⟩
    | rw [ints_at (by omega)]
    | rw [ints_at0 (by omega)]
    | rw [ints_at' (by omega) (by omega)]
    | refine And.intro (lens_all rfl) ?_
    | refine And.intro (show _ ≤ _ ∧ (_ + 1) * _ ≤ _ ∧ _ + 1 ≤ _ by first | omega | (simp; omega)) ?_
    | refine And.intro (show 1 * _ ≤ _ ∧ 1 ≤ _ by omega) ?_
    | refine And.intro (by first | omega | (simp; omega) | (show _ ∧ _; simp; done)) ?_
    | fail) <;> conv => whnf)
  · refine ⟨.inl rfl, ?_⟩
    conv => whnf
    refine ⟨[], ⟨rfl, trivial⟩, ?_, rfl, rfl⟩
    conv => whnf
    left
    conv => lhs; whnf
    refine congrArg AV.bool (Eq.symm (decide_eq_false ?_))
    intro h; subst h; exact hb rfl
  · refine Lp.intro (α := Nat) (fun i => i ≤ a.length ∧ ∀ j, j < i → a.getD j default = b.getD j default) (fun i => a.length - i) (fun i => [(0, .val (namedRows a)), (1, .val (namedRows b)), (5, .int .i64 i)]) (fun _ => []) ?_ ?_
    · refine ⟨0, ⟨by omega, by omega⟩, [], rfl, rfl, trivial, ?_⟩
      repeat' (first
        | exact trivial
        | refine ⟨?_, ?_⟩
        | fail)
      all_goals first
        | with_reducible rfl
        | (conv => whnf
           try left
           conv => lhs; whnf
           first
             | rfl
             | exact congrArg (AV.int .i64) (by omega)
             | skip)
    · rintro i ⟨hi, hall⟩
      refine vc2_sound hR _ _ _ _ _ ?_
      by_cases hlt : i < a.length
      · conv => whnf
        repeat' ((first
          | contradiction
          | (refine And.intro (fun hb => ?_) (fun hb => ?_) <;> first | contradiction | ((try simp only [SB, reduceCtorEq] at hb); try (exfalso; first | contradiction | omega)))
          | refine And.intro rfl ?_
          | refine ⟨_, IntWalk.i64_in _ (by omega), ?_⟩
          | rw [ints_at (by omega)]
          | rw [ints_at0 (by omega)]
          | rw [ints_at' (by omega) (by omega)]
          | refine And.intro (lens_all rfl) ?_
          | refine And.intro (show _ ≤ _ ∧ (_ + 1) * _ ≤ _ ∧ _ + 1 ≤ _ by first | omega | (simp; omega)) ?_
          | refine And.intro (show 1 * _ ≤ _ ∧ 1 ≤ _ by omega) ?_
          | refine And.intro (by first | omega | (simp; omega) | (show _ ∧ _; simp; done)) ?_
          | fail) <;> conv => whnf)
        rw [show (namedRows a)[((i : Nat) : Int).toNat]? = some (namedRow (a.getD i default)) from map_at hlt]
        conv => whnf
        repeat' ((first
          | contradiction
          | (refine And.intro (fun hb => ?_) (fun hb => ?_) <;> first | contradiction | ((try simp only [SB, reduceCtorEq] at hb); try (exfalso; first | contradiction | omega)))
          | refine And.intro rfl ?_
          | refine ⟨_, IntWalk.i64_in _ (by omega), ?_⟩
          | rw [ints_at (by omega)]
          | rw [ints_at0 (by omega)]
          | rw [ints_at' (by omega) (by omega)]
          | refine And.intro (lens_all rfl) ?_
          | refine And.intro (show _ ≤ _ ∧ (_ + 1) * _ ≤ _ ∧ _ + 1 ≤ _ by first | omega | (simp; omega)) ?_
          | refine And.intro (show 1 * _ ≤ _ ∧ 1 ≤ _ by omega) ?_
          | refine And.intro (by first | omega | (simp; omega) | (show _ ∧ _; simp; done)) ?_
          | fail) <;> conv => whnf)
        rw [show (namedRows b)[((i : Nat) : Int).toNat]? = some (namedRow (b.getD i default)) from map_at (by omega)]
        conv => whnf
        repeat' ((first
          | contradiction
          | (refine And.intro (fun hb => ?_) (fun hb => ?_) <;> first | contradiction | ((try simp only [SB, reduceCtorEq] at hb); try (exfalso; first | contradiction | omega)))
          | refine And.intro rfl ?_
          | refine ⟨_, IntWalk.i64_in _ (by omega), ?_⟩
          | rw [ints_at (by omega)]
          | rw [ints_at0 (by omega)]
          | rw [ints_at' (by omega) (by omega)]
          | refine And.intro (lens_all rfl) ?_
          | refine And.intro (show _ ≤ _ ∧ (_ + 1) * _ ≤ _ ∧ _ + 1 ≤ _ by first | omega | (simp; omega)) ?_
          | refine And.intro (show 1 * _ ≤ _ ∧ 1 ≤ _ by omega) ?_
          | refine And.intro (by first | omega | (simp; omega) | (show _ ∧ _; simp; done)) ?_
          | refine ⟨_, _, REqNamed_mk (x := a.getD i default) (y := b.getD i default), ?_⟩
          | fail) <;> conv => whnf)
        · refine ⟨i + 1, ⟨by omega, fun j hj => ?_⟩, by omega, [], rfl, rfl, trivial, ?_⟩
          · by_cases hji : j = i
            · subst hji; exact hb
            · exact hall j (by omega)
          · repeat' (first
              | exact trivial
              | refine ⟨?_, ?_⟩
              | fail)
            all_goals first
              | with_reducible rfl
              | (conv => whnf
                 try left
                 conv => lhs; whnf
                 first
                   | rfl
                   | exact congrArg (AV.int .i64) (by omega)
                   | skip)
        · refine ⟨.inl rfl, ?_⟩
          conv => whnf
          refine ⟨[], ⟨rfl, trivial⟩, ?_, rfl, rfl⟩
          conv => whnf
          left
          conv => lhs; whnf
          refine congrArg AV.bool (Eq.symm (decide_eq_false ?_))
          intro h; subst h; exact hb rfl
      · conv => whnf
        repeat' ((first
          | contradiction
          | (refine And.intro (fun hb => ?_) (fun hb => ?_) <;> first | contradiction | ((try simp only [SB, reduceCtorEq] at hb); try (exfalso; first | contradiction | omega)))
          | refine And.intro rfl ?_
          | refine ⟨_, IntWalk.i64_in _ (by omega), ?_⟩
          | rw [ints_at (by omega)]
          | rw [ints_at0 (by omega)]
          | rw [ints_at' (by omega) (by omega)]
          | refine And.intro (lens_all rfl) ?_
          | refine And.intro (show _ ≤ _ ∧ (_ + 1) * _ ≤ _ ∧ _ + 1 ≤ _ by first | omega | (simp; omega)) ?_
          | refine And.intro (show 1 * _ ≤ _ ∧ 1 ≤ _ by omega) ?_
          | refine And.intro (by first | omega | (simp; omega) | (show _ ∧ _; simp; done)) ?_
          | fail) <;> conv => whnf)
        refine ⟨.inl rfl, ?_⟩
        conv => whnf
        refine ⟨[], ⟨rfl, trivial⟩, ?_, rfl, rfl⟩
        conv => whnf
        left
        conv => lhs; whnf
        refine congrArg AV.bool (Eq.symm (decide_eq_true ?_))
        exact eq_of_getDD (by omega) (fun j hj => hall j (by omega))

end Go.Proofs.Ytpfbkblgefddlaa.Ct
