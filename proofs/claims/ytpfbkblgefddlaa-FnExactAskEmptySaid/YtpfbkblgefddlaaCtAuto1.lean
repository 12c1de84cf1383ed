/- Automata: how they lie, the laws' copies of them. -/
import Derived.Test.YtpfbkblgefddlaaCtEqW
namespace Go.Proofs.Ytpfbkblgefddlaa.Ct
set_option linter.unusedSimpArgs false
set_option linter.unusedVariables false
open Go Go.Proofs Go.Proofs.Ytpfbkblgefddlaa.Av

structure EdgeD where
  src : Int
  letter : Int
  dst : Int
  mark : Bool
  deriving Inhabited, DecidableEq

structure AutoD where
  letters : Int
  states : Int
  start : Int
  edges : List EdgeD
  deriving Inhabited, DecidableEq

structure NamedD where
  name : Int
  auto : AutoD
  deriving Inhabited, DecidableEq

def edgeRow (x : EdgeD) : List AV := [.int .i64 x.src, .int .i64 x.letter, .int .i64 x.dst, .bool x.mark]
def edgeRows (l : List EdgeD) : List (List AV) := l.map edgeRow
def autoRow (a : AutoD) : List AV := [.int .i64 a.letters, .int .i64 a.states, .int .i64 a.start, .val (edgeRows a.edges)]
def namedRow (x : NamedD) : List AV := [.int .i64 x.name, .int .i64 x.auto.letters, .int .i64 x.auto.states, .int .i64 x.auto.start, .val (edgeRows x.auto.edges)]
def namedRows (l : List NamedD) : List (List AV) := l.map namedRow

def c_laws_szEdgeS : ICode := (.seq (.reg [⟨(some 4), .mv, [(.c (.int .i64 0))], none⟩]) (.seq (.reg [⟨(some 5), .mv, [(.t 1)], none⟩, ⟨(some 6), .mv, [(.t 0)], none⟩, ⟨(some 7), .len, [(.t 6)], none⟩, ⟨(some 8), (.bin .sub), [(.t 5), (.t 7)], none⟩, ⟨(some 1), .mv, [(.t 8)], none⟩]) (.seq (.seq (.reg [⟨(some 9), .mv, [(.t 1)], none⟩, ⟨(some 10), (.bin .lss), [(.t 9), (.c (.int .i64 0))], none⟩]) (.cond (.t 10) (.seq (.reg [⟨(some 4), .mv, [(.c (.int .i64 (-1)))], none⟩]) .ret) .skip)) (.seq (.reg [⟨(some 11), .mv, [(.t 1)], none⟩, ⟨(some 4), .mv, [(.t 11)], none⟩]) .ret))))
theorem b_laws_szEdgeS : Body Try.prog 108 12 c_laws_szEdgeS [(.t 4)] := body_mk Try.func108 (by kernel_rfl) (by decide)

def c_laws_szAuto : ICode := (.seq (.reg [⟨(some 2), (.box 4), [(.t 0)], none⟩, ⟨(some 4), .mv, [(.c (.int .i64 0))], none⟩]) (.seq (.reg [⟨(some 5), (.fadr 3), [(.t 2)], none⟩, ⟨(some 6), .ld1, [(.t 5)], none⟩, ⟨(some 7), .mv, [(.t 1)], none⟩, ⟨(some 8), (.call 108), [(.t 6), (.t 7)], none⟩, ⟨(some 1), .mv, [(.t 8)], none⟩]) (.seq (.seq (.reg [⟨(some 9), .mv, [(.t 1)], none⟩, ⟨(some 10), (.bin .lss), [(.t 9), (.c (.int .i64 0))], none⟩]) (.cond (.t 10) (.seq (.reg [⟨(some 4), .mv, [(.c (.int .i64 (-1)))], none⟩]) .ret) .skip)) (.seq (.reg [⟨(some 11), .mv, [(.t 1)], none⟩, ⟨(some 4), .mv, [(.t 11)], none⟩]) .ret))))
theorem b_laws_szAuto : Body Try.prog 46 12 c_laws_szAuto [(.t 4)] := body_mk Try.func46 (by kernel_rfl) (by decide)

def c_laws_szNamed : ICode := (.seq (.reg [⟨(some 2), (.box 5), [(.t 0)], none⟩, ⟨(some 4), .mv, [(.c (.int .i64 0))], none⟩]) (.seq (.reg [⟨(some 5), (.fadr 1), [(.t 2)], none⟩, ⟨(some 6), (.ldn 4), [(.t 5)], none⟩, ⟨(some 7), .mv, [(.t 1)], none⟩, ⟨(some 8), (.call 46), [(.t 6), (.t 7)], none⟩, ⟨(some 1), .mv, [(.t 8)], none⟩]) (.seq (.seq (.reg [⟨(some 9), .mv, [(.t 1)], none⟩, ⟨(some 10), (.bin .lss), [(.t 9), (.c (.int .i64 0))], none⟩]) (.cond (.t 10) (.seq (.reg [⟨(some 4), .mv, [(.c (.int .i64 (-1)))], none⟩]) .ret) .skip)) (.seq (.reg [⟨(some 11), .mv, [(.t 1)], none⟩, ⟨(some 4), .mv, [(.t 11)], none⟩]) .ret))))
theorem b_laws_szNamed : Body Try.prog 68 12 c_laws_szNamed [(.t 4)] := body_mk Try.func68 (by kernel_rfl) (by decide)

def c_laws_szNamedS : ICode := (.seq (.reg [⟨(some 4), .mv, [(.c (.int .i64 0))], none⟩]) (.seq (.reg [⟨(some 6), .mv, [(.t 1)], none⟩, ⟨(some 7), .mv, [(.t 0)], none⟩, ⟨(some 8), .len, [(.t 7)], none⟩, ⟨(some 9), (.bin .sub), [(.t 6), (.t 8)], none⟩, ⟨(some 1), .mv, [(.t 9)], none⟩]) (.seq (.seq (.reg [⟨(some 10), .mv, [(.t 1)], none⟩, ⟨(some 11), (.bin .lss), [(.t 10), (.c (.int .i64 0))], none⟩]) (.cond (.t 11) (.seq (.reg [⟨(some 4), .mv, [(.c (.int .i64 (-1)))], none⟩]) .ret) .skip)) (.seq (.seq (.reg [⟨(some 5), .mv, [(.c (.int .i64 0))], none⟩]) (.block 0 (.loop (.seq (.seq (.reg [⟨(some 12), .mv, [(.t 5)], none⟩, ⟨(some 13), .mv, [(.t 0)], none⟩, ⟨(some 14), .len, [(.t 13)], none⟩, ⟨(some 15), (.bin .lss), [(.t 12), (.t 14)], none⟩]) (.cond (.t 15) .skip (.exit 0))) (.seq (.block 1 (.seq (.reg [⟨(some 18), .mv, [(.t 0)], none⟩, ⟨(some 19), .mv, [(.t 5)], none⟩, ⟨(some 20), (.iadr 5), [(.t 18), (.t 19)], none⟩, ⟨(some 21), (.ldn 5), [(.t 20)], none⟩, ⟨(some 22), .mv, [(.t 1)], none⟩, ⟨(some 23), (.call 68), [(.t 21), (.t 22)], none⟩, ⟨(some 1), .mv, [(.t 23)], none⟩]) (.seq (.reg [⟨(some 24), .mv, [(.t 1)], none⟩, ⟨(some 25), (.bin .lss), [(.t 24), (.c (.int .i64 0))], none⟩]) (.cond (.t 25) (.seq (.reg [⟨(some 4), .mv, [(.c (.int .i64 (-1)))], none⟩]) .ret) .skip)))) (.reg [⟨(some 16), .mv, [(.t 5)], none⟩, ⟨(some 17), (.bin .add), [(.t 16), (.c (.int .i64 1))], none⟩, ⟨(some 5), .mv, [(.t 17)], none⟩])))))) (.seq (.reg [⟨(some 26), .mv, [(.t 1)], none⟩, ⟨(some 4), .mv, [(.t 26)], none⟩]) .ret)))))
theorem b_laws_szNamedS : Body Try.prog 18 27 c_laws_szNamedS [(.t 4)] := body_mk Try.func18 (by kernel_rfl) (by decide)

def c_laws_toEdge : ICode := (.seq (.reg [⟨(some 1), (.box 4), [(.t 0)], none⟩, ⟨(some 2), (.alc [(.int .i64 0), (.int .i64 0), (.int .i64 0), (.bool false)]), [], none⟩]) (.seq (.reg [⟨(some 3), (.alc [(.int .i64 0), (.int .i64 0), (.int .i64 0), (.bool false)]), [], none⟩]) (.seq (.reg [⟨(some 4), (.fadr 0), [(.t 1)], none⟩, ⟨(some 5), .ld1, [(.t 4)], none⟩, ⟨(some 6), (.fadr 0), [(.t 3)], none⟩, ⟨none, (.st 1), [(.t 6), (.t 5)], none⟩]) (.seq (.reg [⟨(some 7), (.fadr 1), [(.t 1)], none⟩, ⟨(some 8), .ld1, [(.t 7)], none⟩, ⟨(some 9), (.fadr 1), [(.t 3)], none⟩, ⟨none, (.st 1), [(.t 9), (.t 8)], none⟩]) (.seq (.reg [⟨(some 10), (.fadr 2), [(.t 1)], none⟩, ⟨(some 11), .ld1, [(.t 10)], none⟩, ⟨(some 12), (.fadr 2), [(.t 3)], none⟩, ⟨none, (.st 1), [(.t 12), (.t 11)], none⟩]) (.seq (.reg [⟨(some 13), (.fadr 3), [(.t 1)], none⟩, ⟨(some 14), .ld1, [(.t 13)], none⟩, ⟨(some 15), (.fadr 3), [(.t 3)], none⟩, ⟨none, (.st 1), [(.t 15), (.t 14)], none⟩]) (.seq (.reg [⟨(some 16), (.ldn 4), [(.t 3)], none⟩, ⟨none, (.st 4), [(.t 2), (.t 16)], none⟩]) .ret)))))))
theorem b_laws_toEdge : Body Try.prog 158 17 c_laws_toEdge [(.cn 2 4)] := body_mk Try.func158 (by kernel_rfl) (by decide)

def c_laws_toEdgeS : ICode := (.seq (.reg [⟨(some 2), .mv, [(.c .snil)], none⟩]) (.seq (.reg [⟨(some 5), .mv, [(.t 0)], none⟩, ⟨(some 6), .len, [(.t 5)], none⟩, ⟨(some 7), (.mks 4 32 [(.int .i64 0), (.int .i64 0), (.int .i64 0), (.bool false)]), [(.t 6), (.t 6)], none⟩, ⟨(some 3), .mv, [(.t 7)], none⟩]) (.seq (.seq (.reg [⟨(some 4), .mv, [(.c (.int .i64 0))], none⟩]) (.block 0 (.loop (.seq (.seq (.reg [⟨(some 8), .mv, [(.t 4)], none⟩, ⟨(some 9), .mv, [(.t 0)], none⟩, ⟨(some 10), .len, [(.t 9)], none⟩, ⟨(some 11), (.bin .lss), [(.t 8), (.t 10)], none⟩]) (.cond (.t 11) .skip (.exit 0))) (.seq (.block 1 (.reg [⟨(some 14), .mv, [(.t 3)], none⟩, ⟨(some 15), .mv, [(.t 4)], none⟩, ⟨(some 16), .mv, [(.t 0)], none⟩, ⟨(some 17), .mv, [(.t 4)], none⟩, ⟨(some 18), (.iadr 4), [(.t 16), (.t 17)], none⟩, ⟨(some 19), (.ldn 4), [(.t 18)], none⟩, ⟨(some 20), (.call 158), [(.t 19)], none⟩, ⟨(some 21), (.iadr 4), [(.t 14), (.t 15)], none⟩, ⟨none, (.st 4), [(.t 21), (.t 20)], none⟩])) (.reg [⟨(some 12), .mv, [(.t 4)], none⟩, ⟨(some 13), (.bin .add), [(.t 12), (.c (.int .i64 1))], none⟩, ⟨(some 4), .mv, [(.t 13)], none⟩])))))) (.seq (.reg [⟨(some 22), .mv, [(.t 3)], none⟩, ⟨(some 2), .mv, [(.t 22)], none⟩]) .ret))))
theorem b_laws_toEdgeS : Body Try.prog 113 23 c_laws_toEdgeS [(.t 2)] := body_mk Try.func113 (by kernel_rfl) (by decide)

def c_laws_toAuto : ICode := (.seq (.reg [⟨(some 1), (.box 4), [(.t 0)], none⟩, ⟨(some 2), (.alc [(.int .i64 0), (.int .i64 0), (.int .i64 0), .snil]), [], none⟩]) (.seq (.reg [⟨(some 3), (.alc [(.int .i64 0), (.int .i64 0), (.int .i64 0), .snil]), [], none⟩]) (.seq (.reg [⟨(some 4), (.fadr 0), [(.t 1)], none⟩, ⟨(some 5), .ld1, [(.t 4)], none⟩, ⟨(some 6), (.fadr 0), [(.t 3)], none⟩, ⟨none, (.st 1), [(.t 6), (.t 5)], none⟩]) (.seq (.reg [⟨(some 7), (.fadr 1), [(.t 1)], none⟩, ⟨(some 8), .ld1, [(.t 7)], none⟩, ⟨(some 9), (.fadr 1), [(.t 3)], none⟩, ⟨none, (.st 1), [(.t 9), (.t 8)], none⟩]) (.seq (.reg [⟨(some 10), (.fadr 2), [(.t 1)], none⟩, ⟨(some 11), .ld1, [(.t 10)], none⟩, ⟨(some 12), (.fadr 2), [(.t 3)], none⟩, ⟨none, (.st 1), [(.t 12), (.t 11)], none⟩]) (.seq (.reg [⟨(some 13), (.fadr 3), [(.t 1)], none⟩, ⟨(some 14), .ld1, [(.t 13)], none⟩, ⟨(some 15), (.call 113), [(.t 14)], none⟩, ⟨(some 16), (.fadr 3), [(.t 3)], none⟩, ⟨none, (.st 1), [(.t 16), (.t 15)], none⟩]) (.seq (.reg [⟨(some 17), (.ldn 4), [(.t 3)], none⟩, ⟨none, (.st 4), [(.t 2), (.t 17)], none⟩]) .ret)))))))
theorem b_laws_toAuto : Body Try.prog 48 18 c_laws_toAuto [(.cn 2 4)] := body_mk Try.func48 (by kernel_rfl) (by decide)

def c_laws_toNamed : ICode := (.seq (.reg [⟨(some 1), (.box 5), [(.t 0)], none⟩, ⟨(some 2), (.alc [(.int .i64 0), (.int .i64 0), (.int .i64 0), (.int .i64 0), .snil]), [], none⟩]) (.seq (.reg [⟨(some 3), (.alc [(.int .i64 0), (.int .i64 0), (.int .i64 0), (.int .i64 0), .snil]), [], none⟩]) (.seq (.reg [⟨(some 4), (.fadr 0), [(.t 1)], none⟩, ⟨(some 5), .ld1, [(.t 4)], none⟩, ⟨(some 6), (.fadr 0), [(.t 3)], none⟩, ⟨none, (.st 1), [(.t 6), (.t 5)], none⟩]) (.seq (.reg [⟨(some 7), (.fadr 1), [(.t 1)], none⟩, ⟨(some 8), (.ldn 4), [(.t 7)], none⟩, ⟨(some 9), (.call 48), [(.t 8)], none⟩, ⟨(some 10), (.fadr 1), [(.t 3)], none⟩, ⟨none, (.st 4), [(.t 10), (.t 9)], none⟩]) (.seq (.reg [⟨(some 11), (.ldn 5), [(.t 3)], none⟩, ⟨none, (.st 5), [(.t 2), (.t 11)], none⟩]) .ret)))))
theorem b_laws_toNamed : Body Try.prog 71 12 c_laws_toNamed [(.cn 2 5)] := body_mk Try.func71 (by kernel_rfl) (by decide)

def c_laws_toNamedS : ICode := (.seq (.reg [⟨(some 2), .mv, [(.c .snil)], none⟩]) (.seq (.reg [⟨(some 5), .mv, [(.t 0)], none⟩, ⟨(some 6), .len, [(.t 5)], none⟩, ⟨(some 7), (.mks 5 56 [(.int .i64 0), (.int .i64 0), (.int .i64 0), (.int .i64 0), .snil]), [(.t 6), (.t 6)], none⟩, ⟨(some 3), .mv, [(.t 7)], none⟩]) (.seq (.seq (.reg [⟨(some 4), .mv, [(.c (.int .i64 0))], none⟩]) (.block 0 (.loop (.seq (.seq (.reg [⟨(some 8), .mv, [(.t 4)], none⟩, ⟨(some 9), .mv, [(.t 0)], none⟩, ⟨(some 10), .len, [(.t 9)], none⟩, ⟨(some 11), (.bin .lss), [(.t 8), (.t 10)], none⟩]) (.cond (.t 11) .skip (.exit 0))) (.seq (.block 1 (.reg [⟨(some 14), .mv, [(.t 3)], none⟩, ⟨(some 15), .mv, [(.t 4)], none⟩, ⟨(some 16), .mv, [(.t 0)], none⟩, ⟨(some 17), .mv, [(.t 4)], none⟩, ⟨(some 18), (.iadr 5), [(.t 16), (.t 17)], none⟩, ⟨(some 19), (.ldn 5), [(.t 18)], none⟩, ⟨(some 20), (.call 71), [(.t 19)], none⟩, ⟨(some 21), (.iadr 5), [(.t 14), (.t 15)], none⟩, ⟨none, (.st 5), [(.t 21), (.t 20)], none⟩])) (.reg [⟨(some 12), .mv, [(.t 4)], none⟩, ⟨(some 13), (.bin .add), [(.t 12), (.c (.int .i64 1))], none⟩, ⟨(some 4), .mv, [(.t 13)], none⟩])))))) (.seq (.reg [⟨(some 22), .mv, [(.t 3)], none⟩, ⟨(some 2), .mv, [(.t 22)], none⟩]) .ret))))
theorem b_laws_toNamedS : Body Try.prog 20 23 c_laws_toNamedS [(.t 2)] := body_mk Try.func20 (by kernel_rfl) (by decide)


def RSzEdgeS (xs : List AV) (r : AV) (objs : List AObj) : Prop := ∃ l n, xs = [.val (edgeRows l), .int .i64 n] ∧ -1 ≤ n ∧ n ≤ 1048576 ∧ r = .int .i64 (if n - l.length < 0 then -1 else n - l.length) ∧ objs = []
theorem RSzEdgeS_mk {l : List EdgeD} {n : Int} (h1 : -1 ≤ n) (h2 : n ≤ 1048576) : RSzEdgeS [.val (edgeRows l), .int .i64 n] (.int .i64 (if n - l.length < 0 then -1 else n - l.length)) [] := ⟨l, n, rfl, h1, h2, rfl, rfl⟩

@[simp] theorem length_edgeRows (l : List EdgeD) : (edgeRows l).length = l.length := by simp [edgeRows]

theorem s_laws_szEdgeS : PureSound Try.prog 108 RSzEdgeS := by
  have hR : Rely Try.prog (ctxOf []) := rely_nil mixed
  refine pure_of_aw b_laws_szEdgeS ?_
  rintro xs r objs ⟨l, n, rfl, h1, h2, rfl, rfl⟩ ⟨w, own, vs, hrel⟩
  have hl : (edgeRows l).length ≤ 9223372036854775807 := by
    obtain ⟨v, hv⟩ := rels_at hrel (i := 0) rfl
    exact rel_len hv
  clear hrel
  have hle := length_edgeRows l
  refine ⟨by simp, vc2_sound hR _ _ _ _ _ ?_⟩
  conv => whnf
  repeat' ((first
    | contradiction
    | (refine And.intro (fun hb => ?_) (fun hb => ?_) <;> first | contradiction | ((try simp only [SB, reduceCtorEq] at hb); try (exfalso; first | contradiction | omega)))
    | refine And.intro rfl ?_
    | refine ⟨_, IntWalk.i64_in _ (by omega), ?_⟩
    | rw [ints_at (by omega)]
    | rw [ints_at0 (by omega)]
    | rw [ints_at' (by omega) (by omega)]
    | refine And.intro (lens_all rfl) ?_
    | refine And.intro (show _ ≤ _ ∧ (_ + 1) * _ ≤ _ ∧ _ + 1 ≤ _ by first | omega | (simp; omega)) ?_
    | refine And.intro (show 1 * _ ≤ _ ∧ 1 ≤ _ by omega) ?_
    | refine And.intro (by first | omega | (simp; omega) | (show _ ∧ _; simp; done)) ?_
    | fail) <;> conv => whnf)
  · refine ⟨.inl rfl, ?_⟩
    conv => whnf
    refine ⟨[], ⟨rfl, trivial⟩, ?_, rfl, rfl⟩
    conv => whnf
    left
    conv => lhs; whnf
    exact congrArg (AV.int .i64) (by rw [if_pos (by omega)])
  · refine ⟨.inl rfl, ?_⟩
    conv => whnf
    refine ⟨[], ⟨rfl, trivial⟩, ?_, rfl, rfl⟩
    conv => whnf
    left
    conv => lhs; whnf
    exact congrArg (AV.int .i64) (by rw [if_neg (by omega)]; omega)

def REdge (xs : List AV) (r : AV) (objs : List AObj) : Prop := ∃ x, xs = [.agg (edgeRow x)] ∧ r = .agg (edgeRow x) ∧ objs = []
theorem REdge_mk {x : EdgeD} : REdge [.agg (edgeRow x)] (.agg (edgeRow x)) [] := ⟨x, rfl, rfl, rfl⟩

theorem s_laws_toEdge : PureSound Try.prog 158 REdge := by
  have hR : Rely Try.prog (ctxOf []) := rely_nil mixed
  refine pure_of_aw b_laws_toEdge ?_
  rintro xs r objs ⟨⟨a, b, c, m⟩, rfl, rfl, rfl⟩ -
  refine ⟨by simp, vc2_sound hR _ _ _ _ _ ?_⟩
  cases m
  all_goals
    conv => whnf
    repeat' ((first
      | contradiction
      | (refine And.intro (fun hb => ?_) (fun hb => ?_) <;> first | contradiction | ((try simp only [SB, reduceCtorEq] at hb); try (exfalso; first | contradiction | omega)))
      | refine And.intro rfl ?_
      | refine ⟨_, IntWalk.i64_in _ (by omega), ?_⟩
      | rw [ints_at (by omega)]
      | rw [ints_at0 (by omega)]
      | rw [ints_at' (by omega) (by omega)]
      | refine And.intro (lens_all rfl) ?_
      | refine And.intro (show _ ≤ _ ∧ (_ + 1) * _ ≤ _ ∧ _ + 1 ≤ _ by first | omega | (simp; omega)) ?_
      | refine And.intro (show 1 * _ ≤ _ ∧ 1 ≤ _ by omega) ?_
      | refine And.intro (by first | omega | (simp; omega) | (show _ ∧ _; simp; done)) ?_
      | fail) <;> conv => whnf)
    refine ⟨.inl rfl, ?_⟩
    conv => whnf
    refine And.intro (Nat.le_of_ble_eq_true rfl) ?_
    conv => whnf
    refine ⟨[], ⟨rfl, trivial⟩, ?_, rfl, rfl⟩
    exact And.intro (.inl rfl) (And.intro (.inl rfl) (And.intro (.inl rfl) (And.intro (.inl rfl) trivial)))

def RToEdgeS (xs : List AV) (r : AV) (objs : List AObj) : Prop := ∃ l, xs = [.val (edgeRows l)] ∧ l.length ≤ 1048576 ∧ r = .ref 0 0 l.length ∧ objs = [.arr 4 (edgeRows l)]
theorem RToEdgeS_mk {l : List EdgeD} (h : l.length ≤ 1048576) : RToEdgeS [.val (edgeRows l)] (.ref 0 0 l.length) [.arr 4 (edgeRows l)] := ⟨l, rfl, h, rfl, rfl⟩

theorem edgeRows_nov (l : List EdgeD) : (edgeRows l).all AV.novs = true := by
  simp [edgeRows, edgeRow, AV.novs, AV.nov]

def zeroEdge : EdgeD := ⟨0, 0, 0, false⟩

theorem s_laws_toEdgeS : PureSound Try.prog 113 RToEdgeS := by
  have hR : Rely Try.prog (ctxOf [(158, .pure REdge)]) := rely_cons b_laws_toEdge.has s_laws_toEdge (rely_nil mixed)
  refine pure_of_aw b_laws_toEdgeS ?_
  rintro xs r objs ⟨l, rfl, hl, rfl, rfl⟩ -
  have hle := length_edgeRows l
  refine ⟨by simp, vc2_sound hR _ _ _ _ _ ?_⟩
  conv => whnf
  repeat' ((first
    | contradiction
    | (refine And.intro (fun hb => ?_) (fun hb => ?_) <;> first | contradiction | ((try simp only [SB, reduceCtorEq] at hb); try (exfalso; first | contradiction | omega)))
    | refine And.intro rfl ?_
    | refine ⟨_, IntWalk.i64_in _ (by omega), ?_⟩
    | rw [ints_at (by omega)]
    | rw [ints_at0 (by omega)]
    | rw [ints_at' (by omega) (by omega)]
    | refine And.intro (lens_all rfl) ?_
    | refine And.intro (show _ ≤ _ ∧ (_ + 1) * _ ≤ _ ∧ _ + 1 ≤ _ by first | omega | (simp; omega)) ?_
    | refine And.intro (show 1 * _ ≤ _ ∧ 1 ≤ _ by omega) ?_
    | refine And.intro (by first | omega | (simp; omega) | (show _ ∧ _; simp; done)) ?_
    | fail) <;> conv => whnf)
  refine Lp.intro (α := Nat) (fun i => i ≤ l.length) (fun i => l.length - i) (fun i => [(0, .val (edgeRows l)), (3, .ref 0 0 l.length), (4, .int .i64 i)]) (fun i => [some (.arr 4 ((l.take i ++ List.replicate (l.length - i) zeroEdge).map edgeRow))]) ?_ ?_
  · refine ⟨0, by omega, [some 0], rfl, rfl, And.intro (And.intro rfl ?_) trivial, ?_⟩
    · show List.replicate ((edgeRows l).length : Int).toNat _ = _
      simp [edgeRows, edgeRow, zeroEdge]
    · repeat' (first
        | exact trivial
        | refine ⟨?_, ?_⟩
        | fail)
      all_goals first
        | with_reducible rfl
        | (conv => whnf
           try left
           conv => lhs; whnf
           first
             | rfl
             | exact congrArg (AV.int .i64) (by omega)
             | skip)
      exact congrArg (AV.ref 0 0) (by simp [edgeRows])
  · intro i hi
    refine vc2_sound hR _ _ _ _ _ ?_
    by_cases hlt : i < l.length
    · conv => whnf
      repeat' ((first
        | contradiction
        | (refine And.intro (fun hb => ?_) (fun hb => ?_) <;> first | contradiction | ((try simp only [SB, reduceCtorEq] at hb); try (exfalso; first | contradiction | omega)))
        | refine And.intro rfl ?_
        | refine ⟨_, IntWalk.i64_in _ (by omega), ?_⟩
        | rw [ints_at (by omega)]
        | rw [ints_at0 (by omega)]
        | rw [ints_at' (by omega) (by omega)]
        | refine And.intro (lens_all rfl) ?_
        | refine And.intro (show _ ≤ _ ∧ (_ + 1) * _ ≤ _ ∧ _ + 1 ≤ _ by first | omega | (simp; omega)) ?_
        | refine And.intro (show 1 * _ ≤ _ ∧ 1 ≤ _ by omega) ?_
        | refine And.intro (by first | omega | (simp; omega) | (show _ ∧ _; simp; done)) ?_
        | fail) <;> conv => whnf)
      rw [show (edgeRows l)[((i : Nat) : Int).toNat]? = some (edgeRow (l.getD i default)) from map_at hlt]
      conv => whnf
      repeat' ((first
        | contradiction
        | (refine And.intro (fun hb => ?_) (fun hb => ?_) <;> first | contradiction | ((try simp only [SB, reduceCtorEq] at hb); try (exfalso; first | contradiction | omega)))
        | refine And.intro rfl ?_
        | refine ⟨_, IntWalk.i64_in _ (by omega), ?_⟩
        | rw [ints_at (by omega)]
        | rw [ints_at0 (by omega)]
        | rw [ints_at' (by omega) (by omega)]
        | refine And.intro (lens_all rfl) ?_
        | refine And.intro (show _ ≤ _ ∧ (_ + 1) * _ ≤ _ ∧ _ + 1 ≤ _ by first | omega | (simp; omega)) ?_
        | refine And.intro (show 1 * _ ≤ _ ∧ 1 ≤ _ by omega) ?_
        | refine And.intro (by first | omega | (simp; omega) | (show _ ∧ _; simp; done)) ?_
        | refine ⟨_, _, REdge_mk (x := l.getD i default), ?_⟩
        | fail) <;> conv => whnf)
      rw [map_at0 (f := edgeRow) (by simp; omega)]
      conv => whnf
      repeat' ((first
        | contradiction
        | (refine And.intro (fun hb => ?_) (fun hb => ?_) <;> first | contradiction | ((try simp only [SB, reduceCtorEq] at hb); try (exfalso; first | contradiction | omega)))
        | refine And.intro rfl ?_
        | refine ⟨_, IntWalk.i64_in _ (by omega), ?_⟩
        | rw [ints_at (by omega)]
        | rw [ints_at0 (by omega)]
        | rw [ints_at' (by omega) (by omega)]
        | refine And.intro (lens_all rfl) ?_
        | refine And.intro (show _ ≤ _ ∧ (_ + 1) * _ ≤ _ ∧ _ + 1 ≤ _ by first | omega | (simp; omega)) ?_
        | refine And.intro (show 1 * _ ≤ _ ∧ 1 ≤ _ by omega) ?_
        | refine And.intro (by first | omega | (simp; omega) | (show _ ∧ _; simp; done)) ?_
        | fail) <;> conv => whnf)
      refine ⟨i + 1, by omega, by omega, [some 0], rfl, rfl, And.intro (And.intro rfl ?_) trivial, ?_⟩
      · show (List.map edgeRow _).set (0 + ((i : Nat) : Int).toNat) (edgeRow (l.getD i default)) = _
        rw [Nat.zero_add]
        exact fill_stepD hlt
      · repeat' (first
          | exact trivial
          | refine ⟨?_, ?_⟩
          | fail)
        all_goals first
          | with_reducible rfl
          | (conv => whnf
             try left
             conv => lhs; whnf
             first
               | rfl
               | exact congrArg (AV.int .i64) (by omega)
               | skip)
    · conv => whnf
      repeat' ((first
        | contradiction
        | (refine And.intro (fun hb => ?_) (fun hb => ?_) <;> first | contradiction | ((try simp only [SB, reduceCtorEq] at hb); try (exfalso; first | contradiction | omega)))
        | refine And.intro rfl ?_
        | refine ⟨_, IntWalk.i64_in _ (by omega), ?_⟩
        | rw [ints_at (by omega)]
        | rw [ints_at0 (by omega)]
        | rw [ints_at' (by omega) (by omega)]
        | refine And.intro (lens_all rfl) ?_
        | refine And.intro (show _ ≤ _ ∧ (_ + 1) * _ ≤ _ ∧ _ + 1 ≤ _ by first | omega | (simp; omega)) ?_
        | refine And.intro (show 1 * _ ≤ _ ∧ 1 ≤ _ by omega) ?_
        | refine And.intro (by first | omega | (simp; omega) | (show _ ∧ _; simp; done)) ?_
        | fail) <;> conv => whnf)
      refine ⟨.inl rfl, ?_⟩
      conv => whnf
      refine ⟨[some 0], ⟨rfl, And.intro (And.intro rfl ?_) trivial⟩, rfl, rfl, by simp [AObj.nov, edgeRows_nov]⟩
      have : i = l.length := by omega
      subst this
      simp [edgeRows]

def RToAuto (xs : List AV) (r : AV) (objs : List AObj) : Prop := ∃ x, xs = [.agg (autoRow x)] ∧ x.edges.length ≤ 1048576 ∧ r = .agg (autoRow x) ∧ objs = []
theorem RToAuto_mk {x : AutoD} (h : x.edges.length ≤ 1048576) : RToAuto [.agg (autoRow x)] (.agg (autoRow x)) [] := ⟨x, rfl, h, rfl, rfl⟩

theorem s_laws_toAuto : LooseSound Try.prog 48 RToAuto := by
  have hR : Rely Try.prog (ctxOf [(113, .pure RToEdgeS)]) := rely_cons b_laws_toEdgeS.has s_laws_toEdgeS (rely_nil mixed)
  refine loose_of_aw b_laws_toAuto ?_
  rintro xs r objs ⟨x, rfl, hx, rfl, rfl⟩ -
  refine ⟨by simp, vc2_sound hR _ _ _ _ _ ?_⟩
  conv => whnf
  repeat' ((first
    | contradiction
    | (refine And.intro (fun hb => ?_) (fun hb => ?_) <;> first | contradiction | ((try simp only [SB, reduceCtorEq] at hb); try (exfalso; first | contradiction | omega)))
    | refine And.intro rfl ?_
    | refine ⟨_, IntWalk.i64_in _ (by omega), ?_⟩
    | rw [ints_at (by omega)]
    | rw [ints_at0 (by omega)]
    | rw [ints_at' (by omega) (by omega)]
    | refine And.intro (lens_all rfl) ?_
    | refine And.intro (show _ ≤ _ ∧ (_ + 1) * _ ≤ _ ∧ _ + 1 ≤ _ by first | omega | (simp; omega)) ?_
    | refine And.intro (show 1 * _ ≤ _ ∧ 1 ≤ _ by omega) ?_
    | refine And.intro (by first | omega | (simp; omega) | (show _ ∧ _; simp; done)) ?_
    | refine ⟨_, _, RToEdgeS_mk hx, ?_⟩
    | fail) <;> conv => whnf)
  refine ⟨.inl rfl, ?_⟩
  conv => whnf
  refine And.intro (Nat.le_of_ble_eq_true rfl) ?_
  conv => whnf
  refine ⟨[], ⟨rfl, trivial⟩, ?_⟩
  refine And.intro (.inl rfl) (And.intro (.inl rfl) (And.intro (.inl rfl) (And.intro (.inr ?_) trivial)))
  exact snap_all rfl (by simp [edgeRows])

def RToNamed (xs : List AV) (r : AV) (objs : List AObj) : Prop := ∃ x, xs = [.agg (namedRow x)] ∧ x.auto.edges.length ≤ 1048576 ∧ r = .agg (namedRow x) ∧ objs = []
theorem RToNamed_mk {x : NamedD} (h : x.auto.edges.length ≤ 1048576) : RToNamed [.agg (namedRow x)] (.agg (namedRow x)) [] := ⟨x, rfl, h, rfl, rfl⟩

theorem s_laws_toNamed : LooseSound Try.prog 71 RToNamed := by
  have hR : Rely Try.prog (ctxOf [(48, .loose RToAuto)]) := rely_cons b_laws_toAuto.has s_laws_toAuto (rely_nil mixed)
  refine loose_of_aw b_laws_toNamed ?_
  rintro xs r objs ⟨x, rfl, hx, rfl, rfl⟩ -
  refine ⟨by simp, vc2_sound hR _ _ _ _ _ ?_⟩
  conv => whnf
  repeat' ((first
    | contradiction
    | (refine And.intro (fun hb => ?_) (fun hb => ?_) <;> first | contradiction | ((try simp only [SB, reduceCtorEq] at hb); try (exfalso; first | contradiction | omega)))
    | refine And.intro rfl ?_
    | refine ⟨_, IntWalk.i64_in _ (by omega), ?_⟩
    | rw [ints_at (by omega)]
    | rw [ints_at0 (by omega)]
    | rw [ints_at' (by omega) (by omega)]
    | refine And.intro (lens_all rfl) ?_
    | refine And.intro (show _ ≤ _ ∧ (_ + 1) * _ ≤ _ ∧ _ + 1 ≤ _ by first | omega | (simp; omega)) ?_
    | refine And.intro (show 1 * _ ≤ _ ∧ 1 ≤ _ by omega) ?_
    | refine And.intro (by first | omega | (simp; omega) | (show _ ∧ _; simp; done)) ?_
    | fail) <;> conv => whnf)
  refine ⟨_, _, RToAuto_mk (x := x.auto) hx, ?_⟩
  conv => whnf
  repeat' ((first
    | contradiction
    | (refine And.intro (fun hb => ?_) (fun hb => ?_) <;> first | contradiction | ((try simp only [SB, reduceCtorEq] at hb); try (exfalso; first | contradiction | omega)))
    | refine And.intro rfl ?_
    | refine ⟨_, IntWalk.i64_in _ (by omega), ?_⟩
    | rw [ints_at (by omega)]
    | rw [ints_at0 (by omega)]
    | rw [ints_at' (by omega) (by omega)]
    | refine And.intro (lens_all rfl) ?_
    | refine And.intro (show _ ≤ _ ∧ (_ + 1) * _ ≤ _ ∧ _ + 1 ≤ _ by first | omega | (simp; omega)) ?_
    | refine And.intro (show 1 * _ ≤ _ ∧ 1 ≤ _ by omega) ?_
    | refine And.intro (by first | omega | (simp; omega) | (show _ ∧ _; simp; done)) ?_
    | fail) <;> conv => whnf)
  refine ⟨.inl rfl, ?_⟩
  conv => whnf
  refine And.intro (Nat.le_of_ble_eq_true rfl) ?_
  conv => whnf
  refine ⟨[], ⟨rfl, trivial⟩, ?_⟩
  exact And.intro (.inl rfl) (And.intro (.inl rfl) (And.intro (.inl rfl) (And.intro (.inl rfl) (And.intro (.inl rfl) trivial))))

def RSzAuto (xs : List AV) (r : AV) (objs : List AObj) : Prop := ∃ x n, xs = [.agg (autoRow x), .int .i64 n] ∧ -1 ≤ n ∧ n ≤ 1048576 ∧ r = .int .i64 (if n - x.edges.length < 0 then -1 else n - x.edges.length) ∧ objs = []
theorem RSzAuto_mk {x : AutoD} {n : Int} (h1 : -1 ≤ n) (h2 : n ≤ 1048576) : RSzAuto [.agg (autoRow x), .int .i64 n] (.int .i64 (if n - x.edges.length < 0 then -1 else n - x.edges.length)) [] := ⟨x, n, rfl, h1, h2, rfl, rfl⟩

theorem s_laws_szAuto : PureSound Try.prog 46 RSzAuto := by
  have hR : Rely Try.prog (ctxOf [(108, .pure RSzEdgeS)]) := rely_cons b_laws_szEdgeS.has s_laws_szEdgeS (rely_nil mixed)
  refine pure_of_aw b_laws_szAuto ?_
  rintro xs r objs ⟨x, n, rfl, h1, h2, rfl, rfl⟩ -
  refine ⟨by simp, vc2_sound hR _ _ _ _ _ ?_⟩
  conv => whnf
  repeat' ((first
    | contradiction
    | (refine And.intro (fun hb => ?_) (fun hb => ?_) <;> first | contradiction | ((try simp only [SB, reduceCtorEq] at hb); try (exfalso; first | contradiction | omega)))
    | refine And.intro rfl ?_
    | refine ⟨_, IntWalk.i64_in _ (by omega), ?_⟩
    | rw [ints_at (by omega)]
    | rw [ints_at0 (by omega)]
    | rw [ints_at' (by omega) (by omega)]
    | refine And.intro (lens_all rfl) ?_
    | refine And.intro (show _ ≤ _ ∧ (_ + 1) * _ ≤ _ ∧ _ + 1 ≤ _ by first | omega | (simp; omega)) ?_
    | refine And.intro (show 1 * _ ≤ _ ∧ 1 ≤ _ by omega) ?_
    | refine And.intro (by first | omega | (simp; omega) | (show _ ∧ _; simp; done)) ?_
    | refine ⟨_, _, RSzEdgeS_mk h1 h2, ?_⟩
    | fail) <;> conv => whnf)
  · refine ⟨.inl rfl, ?_⟩
    conv => whnf
    refine ⟨[], ⟨rfl, trivial⟩, ?_, rfl, rfl⟩
    conv => whnf
    left
    conv => lhs; whnf
    exact congrArg (AV.int .i64) (by split at hb <;> (try rw [if_pos (by omega)]) <;> omega)
  · refine ⟨.inl rfl, ?_⟩
    conv => whnf
    refine ⟨[], ⟨rfl, trivial⟩, ?_, rfl, rfl⟩
    conv => whnf
    left
    conv => lhs; whnf

def RSzNamed (xs : List AV) (r : AV) (objs : List AObj) : Prop := ∃ x n, xs = [.agg (namedRow x), .int .i64 n] ∧ -1 ≤ n ∧ n ≤ 1048576 ∧ r = .int .i64 (if n - x.auto.edges.length < 0 then -1 else n - x.auto.edges.length) ∧ objs = []
theorem RSzNamed_mk {x : NamedD} {n : Int} (h1 : -1 ≤ n) (h2 : n ≤ 1048576) : RSzNamed [.agg (namedRow x), .int .i64 n] (.int .i64 (if n - x.auto.edges.length < 0 then -1 else n - x.auto.edges.length)) [] := ⟨x, n, rfl, h1, h2, rfl, rfl⟩

theorem s_laws_szNamed : PureSound Try.prog 68 RSzNamed := by
  have hR : Rely Try.prog (ctxOf [(46, .pure RSzAuto)]) := rely_cons b_laws_szAuto.has s_laws_szAuto (rely_nil mixed)
  refine pure_of_aw b_laws_szNamed ?_
  rintro xs r objs ⟨x, n, rfl, h1, h2, rfl, rfl⟩ -
  refine ⟨by simp, vc2_sound hR _ _ _ _ _ ?_⟩
  conv => whnf
  repeat' ((first
    | contradiction
    | (refine And.intro (fun hb => ?_) (fun hb => ?_) <;> first | contradiction | ((try simp only [SB, reduceCtorEq] at hb); try (exfalso; first | contradiction | omega)))
    | refine And.intro rfl ?_
    | refine ⟨_, IntWalk.i64_in _ (by omega), ?_⟩
    | rw [ints_at (by omega)]
    | rw [ints_at0 (by omega)]
    | rw [ints_at' (by omega) (by omega)]
    | refine And.intro (lens_all rfl) ?_
    | refine And.intro (show _ ≤ _ ∧ (_ + 1) * _ ≤ _ ∧ _ + 1 ≤ _ by first | omega | (simp; omega)) ?_
    | refine And.intro (show 1 * _ ≤ _ ∧ 1 ≤ _ by omega) ?_
    | refine And.intro (by first | omega | (simp; omega) | (show _ ∧ _; simp; done)) ?_
    | refine ⟨_, _, RSzAuto_mk (x := x.auto) h1 h2, ?_⟩
    | fail) <;> conv => whnf)
  · refine ⟨.inl rfl, ?_⟩
    conv => whnf
    refine ⟨[], ⟨rfl, trivial⟩, ?_, rfl, rfl⟩
    conv => whnf
    left
    conv => lhs; whnf
    exact congrArg (AV.int .i64) (by split at hb <;> (try rw [if_pos (by omega)]) <;> omega)
  · refine ⟨.inl rfl, ?_⟩
    conv => whnf
    refine ⟨[], ⟨rfl, trivial⟩, ?_, rfl, rfl⟩
    conv => whnf
    left
    conv => lhs; whnf

def edgeSum : List NamedD → Int
  | [] => 0
  | x :: r => x.auto.edges.length + edgeSum r

theorem edgeSum_nonneg : ∀ (l : List NamedD), 0 ≤ edgeSum l
  | [] => by simp [edgeSum]
  | x :: r => by have := edgeSum_nonneg r; simp only [edgeSum]; omega

theorem edgeSum_append : ∀ (a b : List NamedD), edgeSum (a ++ b) = edgeSum a + edgeSum b
  | [], b => by simp [edgeSum]
  | x :: r, b => by simp only [List.cons_append, edgeSum, edgeSum_append r b]; omega

theorem edgeSum_take {l : List NamedD} {i : Nat} (hi : i < l.length) : edgeSum (l.take (i + 1)) = edgeSum (l.take i) + (l.getD i default).auto.edges.length := by
  rw [take_succ_D hi, edgeSum_append]
  simp [edgeSum]

theorem edgeSum_le (l : List NamedD) (i : Nat) : edgeSum (l.take i) ≤ edgeSum l := by
  have h := edgeSum_append (l.take i) (l.drop i)
  rw [List.take_append_drop] at h
  have := edgeSum_nonneg (l.drop i)
  omega

def leftNamed (l : List NamedD) (n : Int) : Int := if n - l.length - edgeSum l < 0 then -1 else n - l.length - edgeSum l

def RSzNamedS (xs : List AV) (r : AV) (objs : List AObj) : Prop := ∃ l n, xs = [.val (namedRows l), .int .i64 n] ∧ 0 ≤ n ∧ n ≤ 1048576 ∧ r = .int .i64 (leftNamed l n) ∧ objs = []
theorem RSzNamedS_mk {l : List NamedD} {n : Int} (h1 : 0 ≤ n) (h2 : n ≤ 1048576) : RSzNamedS [.val (namedRows l), .int .i64 n] (.int .i64 (leftNamed l n)) [] := ⟨l, n, rfl, h1, h2, rfl, rfl⟩

@[simp] theorem length_namedRows (l : List NamedD) : (namedRows l).length = l.length := by simp [namedRows]

theorem s_laws_szNamedS : PureSound Try.prog 18 RSzNamedS := by
  have hR : Rely Try.prog (ctxOf [(68, .pure RSzNamed)]) := rely_cons b_laws_szNamed.has s_laws_szNamed (rely_nil mixed)
  refine pure_of_aw b_laws_szNamedS ?_
  rintro xs r objs ⟨l, n, rfl, h1, h2, rfl, rfl⟩ ⟨w, own, vs, hrel⟩
  have hl : (namedRows l).length ≤ 9223372036854775807 := by
    obtain ⟨v, hv⟩ := rels_at hrel (i := 0) rfl
    exact rel_len hv
  clear hrel
  have hle := length_namedRows l
  have hnn := edgeSum_nonneg l
  refine ⟨by simp, vc2_sound hR _ _ _ _ _ ?_⟩
  conv => whnf
  repeat' ((first
    | contradiction
    | (refine And.intro (fun hb => ?_) (fun hb => ?_) <;> first | contradiction | ((try simp only [SB, reduceCtorEq] at hb); try (exfalso; first | contradiction | omega)))
    | refine And.intro rfl ?_
    | refine ⟨_, IntWalk.i64_in _ (by omega), ?_⟩
    | rw [ints_at (by omega)]
    | rw [ints_at0 (by omega)]
    | rw [ints_at' (by omega) (by omega)]
    | refine And.intro (lens_all rfl) ?_
    | refine And.intro (show _ ≤ _ ∧ (_ + 1) * _ ≤ _ ∧ _ + 1 ≤ _ by first | omega | (simp; omega)) ?_
    | refine And.intro (show 1 * _ ≤ _ ∧ 1 ≤ _ by omega) ?_
    | refine And.intro (by first | omega | (simp; omega) | (show _ ∧ _; simp; done)) ?_
    | fail) <;> conv => whnf)
  · refine ⟨.inl rfl, ?_⟩
    conv => whnf
    refine ⟨[], ⟨rfl, trivial⟩, ?_, rfl, rfl⟩
    conv => whnf
    left
    conv => lhs; whnf
    exact congrArg (AV.int .i64) (by unfold leftNamed; rw [if_pos (by omega)])
  · refine Lp.intro (α := Nat) (fun i => i ≤ l.length ∧ 0 ≤ n - l.length - edgeSum (l.take i)) (fun i => l.length - i) (fun i => [(0, .val (namedRows l)), (1, .int .i64 (n - l.length - edgeSum (l.take i))), (5, .int .i64 i)]) (fun _ => []) ?_ ?_
    · refine ⟨0, ⟨by omega, by simp [edgeSum] <;> omega⟩, [], rfl, rfl, trivial, ?_⟩
      repeat' (first
        | exact trivial
        | refine ⟨?_, ?_⟩
        | fail)
      all_goals first
        | with_reducible rfl
        | (conv => whnf
           try left
           conv => lhs; whnf
           first
             | rfl
             | exact congrArg (AV.int .i64) (by omega)
             | skip)
      exact congrArg (AV.int .i64) (by simp [edgeSum] <;> omega)
    · rintro i ⟨hi, hpos⟩
      refine vc2_sound hR _ _ _ _ _ ?_
      by_cases hlt : i < l.length
      · have hsum := edgeSum_take hlt
        have htot := edgeSum_le l (i + 1)
        have hge := edgeSum_nonneg (l.take i)
        conv => whnf
        repeat' ((first
          | contradiction
          | (refine And.intro (fun hb => ?_) (fun hb => ?_) <;> first | contradiction | ((try simp only [SB, reduceCtorEq] at hb); try (exfalso; first | contradiction | omega)))
          | refine And.intro rfl ?_
          | refine ⟨_, IntWalk.i64_in _ (by omega), ?_⟩
          | rw [ints_at (by omega)]
          | rw [ints_at0 (by omega)]
          | rw [ints_at' (by omega) (by omega)]
          | refine And.intro (lens_all rfl) ?_
          | refine And.intro (show _ ≤ _ ∧ (_ + 1) * _ ≤ _ ∧ _ + 1 ≤ _ by first | omega | (simp; omega)) ?_
          | refine And.intro (show 1 * _ ≤ _ ∧ 1 ≤ _ by omega) ?_
          | refine And.intro (by first | omega | (simp; omega) | (show _ ∧ _; simp; done)) ?_
          | fail) <;> conv => whnf)
        rw [show (namedRows l)[((i : Nat) : Int).toNat]? = some (namedRow (l.getD i default)) from map_at hlt]
        conv => whnf
        repeat' ((first
          | contradiction
          | (refine And.intro (fun hb => ?_) (fun hb => ?_) <;> first | contradiction | ((try simp only [SB, reduceCtorEq] at hb); try (exfalso; first | contradiction | omega)))
          | refine And.intro rfl ?_
          | refine ⟨_, IntWalk.i64_in _ (by omega), ?_⟩
          | rw [ints_at (by omega)]
          | rw [ints_at0 (by omega)]
          | rw [ints_at' (by omega) (by omega)]
          | refine And.intro (lens_all rfl) ?_
          | refine And.intro (show _ ≤ _ ∧ (_ + 1) * _ ≤ _ ∧ _ + 1 ≤ _ by first | omega | (simp; omega)) ?_
          | refine And.intro (show 1 * _ ≤ _ ∧ 1 ≤ _ by omega) ?_
          | refine And.intro (by first | omega | (simp; omega) | (show _ ∧ _; simp; done)) ?_
          | refine ⟨_, _, RSzNamed_mk (x := l.getD i default) (by omega) (by omega), ?_⟩
          | fail) <;> conv => whnf)
        · refine ⟨.inl rfl, ?_⟩
          conv => whnf
          refine ⟨[], ⟨rfl, trivial⟩, ?_, rfl, rfl⟩
          conv => whnf
          left
          conv => lhs; whnf
          exact congrArg (AV.int .i64) (by unfold leftNamed; split at hb <;> (try rw [if_pos (by omega)]) <;> omega)
        · refine ⟨i + 1, ⟨by omega, by split at hb <;> omega⟩, by omega, [], rfl, rfl, trivial, ?_⟩
          repeat' (first
            | exact trivial
            | refine ⟨?_, ?_⟩
            | fail)
          all_goals first
            | with_reducible rfl
            | (conv => whnf
               try left
               conv => lhs; whnf
               first
                 | rfl
                 | exact congrArg (AV.int .i64) (by omega)
                 | skip)
      · have e : l.take i = l := List.take_of_length_le (by omega)
        rw [e] at hpos ⊢
        conv => whnf
        repeat' ((first
          | contradiction
          | (refine And.intro (fun hb => ?_) (fun hb => ?_) <;> first | contradiction | ((try simp only [SB, reduceCtorEq] at hb); try (exfalso; first | contradiction | omega)))
          | refine And.intro rfl ?_
          | refine ⟨_, IntWalk.i64_in _ (by omega), ?_⟩
          | rw [ints_at (by omega)]
          | rw [ints_at0 (by omega)]
          | rw [ints_at' (by omega) (by omega)]
          | refine And.intro (lens_all rfl) ?_
          | refine And.intro (show _ ≤ _ ∧ (_ + 1) * _ ≤ _ ∧ _ + 1 ≤ _ by first | omega | (simp; omega)) ?_
          | refine And.intro (show 1 * _ ≤ _ ∧ 1 ≤ _ by omega) ?_
          | refine And.intro (by first | omega | (simp; omega) | (show _ ∧ _; simp; done)) ?_
          | fail) <;> conv => whnf)
        refine ⟨.inl rfl, ?_⟩
        conv => whnf
        refine ⟨[], ⟨rfl, trivial⟩, ?_, rfl, rfl⟩
        conv => whnf
        left
        conv => lhs; whnf
        exact congrArg (AV.int .i64) (by unfold leftNamed; rw [if_neg (by omega)])

def RToNamedS (xs : List AV) (r : AV) (objs : List AObj) : Prop := ∃ l, xs = [.val (namedRows l)] ∧ l.length ≤ 1048576 ∧ (∀ x ∈ l, x.auto.edges.length ≤ 1048576) ∧ r = .val (namedRows l) ∧ objs = []
theorem RToNamedS_mk {l : List NamedD} (h : l.length ≤ 1048576) (h2 : ∀ x ∈ l, x.auto.edges.length ≤ 1048576) : RToNamedS [.val (namedRows l)] (.val (namedRows l)) [] := ⟨l, rfl, h, h2, rfl, rfl⟩

theorem mem_getD {α : Type} [Inhabited α] {l : List α} {i : Nat} (h : i < l.length) : l.getD i default ∈ l := by
  rw [List.getD_eq_getElem?_getD, List.getElem?_eq_getElem h]
  exact List.getElem_mem h

/-- the zero of a Named, as make lays it: its edges are nil -/
def zeroNamedRow : List AV := [.int .i64 0, .int .i64 0, .int .i64 0, .int .i64 0, .snil]

theorem fill_rows {α : Type} [Inhabited α] {f : α → List AV} {l : List α} {z : List AV} {i : Nat} (hi : i < l.length) : ((l.take i).map f ++ List.replicate (l.length - i) z).set i (f (l.getD i default)) = (l.take (i + 1)).map f ++ List.replicate (l.length - (i + 1)) z := by
  rw [take_succ_D hi]
  have e : l.length - i = (l.length - (i + 1)) + 1 := by omega
  rw [e, List.replicate_succ]
  simp [List.set_append, Nat.min_eq_left (Nat.le_of_lt hi)]

theorem fill_at {α : Type} [Inhabited α] {f : α → List AV} {l : List α} {z : List AV} {i : Nat} (hi : i < l.length) : ((l.take i).map f ++ List.replicate (l.length - i) z)[0 + ((i : Nat) : Int).toNat]? = some z := by
  have e : l.length - i = (l.length - (i + 1)) + 1 := by omega
  rw [e, List.replicate_succ]
  simp [List.getElem?_append, Nat.min_eq_left (Nat.le_of_lt hi)]

theorem s_laws_toNamedS : LooseSound Try.prog 20 RToNamedS := by
  have hR : Rely Try.prog (ctxOf [(71, .loose RToNamed)]) := rely_cons b_laws_toNamed.has s_laws_toNamed (rely_nil mixed)
  refine loose_of_aw b_laws_toNamedS ?_
  rintro xs r objs ⟨l, rfl, hl, hed, rfl, rfl⟩ -
  have hle := length_namedRows l
  refine ⟨by simp, vc2_sound hR _ _ _ _ _ ?_⟩
  conv => whnf
  repeat' ((first
    | contradiction
    | (refine And.intro (fun hb => ?_) (fun hb => ?_) <;> first | contradiction | ((try simp only [SB, reduceCtorEq] at hb); try (exfalso; first | contradiction | omega)))
    | refine And.intro rfl ?_
    | refine ⟨_, IntWalk.i64_in _ (by omega), ?_⟩
    | rw [ints_at (by omega)]
    | rw [ints_at0 (by omega)]
    | rw [ints_at' (by omega) (by omega)]
    | refine And.intro (lens_all rfl) ?_
    | refine And.intro (show _ ≤ _ ∧ (_ + 1) * _ ≤ _ ∧ _ + 1 ≤ _ by first | omega | (simp; omega)) ?_
    | refine And.intro (show 1 * _ ≤ _ ∧ 1 ≤ _ by omega) ?_
    | refine And.intro (by first | omega | (simp; omega) | (show _ ∧ _; simp; done)) ?_
    | fail) <;> conv => whnf)
  refine Lp.intro (α := Nat) (fun i => i ≤ l.length) (fun i => l.length - i) (fun i => [(0, .val (namedRows l)), (3, .ref 0 0 l.length), (4, .int .i64 i)]) (fun i => [some (.arr 5 ((l.take i).map namedRow ++ List.replicate (l.length - i) zeroNamedRow))]) ?_ ?_
  · refine ⟨0, by omega, [some 0], rfl, rfl, And.intro (And.intro rfl ?_) trivial, ?_⟩
    · show List.replicate ((namedRows l).length : Int).toNat _ = _
      simp [namedRows, zeroNamedRow]
    · repeat' (first
        | exact trivial
        | refine ⟨?_, ?_⟩
        | fail)
      all_goals first
        | with_reducible rfl
        | (conv => whnf
           try left
           conv => lhs; whnf
           first
             | rfl
             | exact congrArg (AV.int .i64) (by omega)
             | skip)
      exact congrArg (AV.ref 0 0) (by simp [namedRows])
  · intro i hi
    refine vc2_sound hR _ _ _ _ _ ?_
    by_cases hlt : i < l.length
    · conv => whnf
      repeat' ((first
        | contradiction
        | (refine And.intro (fun hb => ?_) (fun hb => ?_) <;> first | contradiction | ((try simp only [SB, reduceCtorEq] at hb); try (exfalso; first | contradiction | omega)))
        | refine And.intro rfl ?_
        | refine ⟨_, IntWalk.i64_in _ (by omega), ?_⟩
        | rw [ints_at (by omega)]
        | rw [ints_at0 (by omega)]
        | rw [ints_at' (by omega) (by omega)]
        | refine And.intro (lens_all rfl) ?_
        | refine And.intro (show _ ≤ _ ∧ (_ + 1) * _ ≤ _ ∧ _ + 1 ≤ _ by first | omega | (simp; omega)) ?_
        | refine And.intro (show 1 * _ ≤ _ ∧ 1 ≤ _ by omega) ?_
        | refine And.intro (by first | omega | (simp; omega) | (show _ ∧ _; simp; done)) ?_
        | fail) <;> conv => whnf)
      rw [show (namedRows l)[((i : Nat) : Int).toNat]? = some (namedRow (l.getD i default)) from map_at hlt]
      conv => whnf
      repeat' ((first
        | contradiction
        | (refine And.intro (fun hb => ?_) (fun hb => ?_) <;> first | contradiction | ((try simp only [SB, reduceCtorEq] at hb); try (exfalso; first | contradiction | omega)))
        | refine And.intro rfl ?_
        | refine ⟨_, IntWalk.i64_in _ (by omega), ?_⟩
        | rw [ints_at (by omega)]
        | rw [ints_at0 (by omega)]
        | rw [ints_at' (by omega) (by omega)]
        | refine And.intro (lens_all rfl) ?_
        | refine And.intro (show _ ≤ _ ∧ (_ + 1) * _ ≤ _ ∧ _ + 1 ≤ _ by first | omega | (simp; omega)) ?_
        | refine And.intro (show 1 * _ ≤ _ ∧ 1 ≤ _ by omega) ?_
        | refine And.intro (by first | omega | (simp; omega) | (show _ ∧ _; simp; done)) ?_
        | refine ⟨_, _, RToNamed_mk (x := l.getD i default) (hed _ (mem_getD hlt)), ?_⟩
        | fail) <;> conv => whnf)
      rw [fill_at (f := namedRow) hlt]
      conv => whnf
      repeat' ((first
        | contradiction
        | (refine And.intro (fun hb => ?_) (fun hb => ?_) <;> first | contradiction | ((try simp only [SB, reduceCtorEq] at hb); try (exfalso; first | contradiction | omega)))
        | refine And.intro rfl ?_
        | refine ⟨_, IntWalk.i64_in _ (by omega), ?_⟩
        | rw [ints_at (by omega)]
        | rw [ints_at0 (by omega)]
        | rw [ints_at' (by omega) (by omega)]
        | refine And.intro (lens_all rfl) ?_
        | refine And.intro (show _ ≤ _ ∧ (_ + 1) * _ ≤ _ ∧ _ + 1 ≤ _ by first | omega | (simp; omega)) ?_
        | refine And.intro (show 1 * _ ≤ _ ∧ 1 ≤ _ by omega) ?_
        | refine And.intro (by first | omega | (simp; omega) | (show _ ∧ _; simp; done)) ?_
        | fail) <;> conv => whnf)
      refine ⟨i + 1, by omega, by omega, [some 0], rfl, rfl, And.intro (And.intro rfl ?_) trivial, ?_⟩
      · show (List.map namedRow (l.take i) ++ _).set (0 + ((i : Nat) : Int).toNat) (namedRow (l.getD i default)) = _
        rw [Nat.zero_add]
        exact fill_rows hlt
      · repeat' (first
          | exact trivial
          | refine ⟨?_, ?_⟩
          | fail)
        all_goals first
          | with_reducible rfl
          | (conv => whnf
             try left
             conv => lhs; whnf
             first
               | rfl
               | exact congrArg (AV.int .i64) (by omega)
               | skip)
    · conv => whnf
      repeat' ((first
        | contradiction
        | (refine And.intro (fun hb => ?_) (fun hb => ?_) <;> first | contradiction | ((try simp only [SB, reduceCtorEq] at hb); try (exfalso; first | contradiction | omega)))
        | refine And.intro rfl ?_
        | refine ⟨_, IntWalk.i64_in _ (by omega), ?_⟩
        | rw [ints_at (by omega)]
        | rw [ints_at0 (by omega)]
        | rw [ints_at' (by omega) (by omega)]
        | refine And.intro (lens_all rfl) ?_
        | refine And.intro (show _ ≤ _ ∧ (_ + 1) * _ ≤ _ ∧ _ + 1 ≤ _ by first | omega | (simp; omega)) ?_
        | refine And.intro (show 1 * _ ≤ _ ∧ 1 ≤ _ by omega) ?_
        | refine And.intro (by first | omega | (simp; omega) | (show _ ∧ _; simp; done)) ?_
        | fail) <;> conv => whnf)
      refine ⟨.inl rfl, ?_⟩
      conv => whnf
      refine ⟨[], ⟨rfl, trivial⟩, .inr ?_⟩
      refine snap_all (z := 5) (rows := namedRows l) ?_ hle
      show some (AObj.arr 5 ((l.take i).map namedRow ++ List.replicate (l.length - i) zeroNamedRow)) = _
      have : i = l.length := by omega
      subst this
      simp [namedRows]

end Go.Proofs.Ytpfbkblgefddlaa.Ct
