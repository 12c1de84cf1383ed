/- The laws' marks on edges: they are written over, and read again. -/
import Derived.Test.YtpfbkblgefddlaaCtAuto2
import Derived.Test.YtpfbkblgefddlaaAvVc2
namespace Go.Proofs.Ytpfbkblgefddlaa.Ct
set_option linter.unusedSimpArgs false
set_option linter.unusedVariables false
open Go Go.Proofs Go.Proofs.Ytpfbkblgefddlaa.Av

def c_laws_markEdgeS : ICode := (.seq (.reg [⟨(some 4), .mv, [(.c (.int .i64 0))], none⟩]) (.seq (.seq (.reg [⟨(some 5), .mv, [(.c (.int .i64 0))], none⟩]) (.block 0 (.loop (.seq (.seq (.reg [⟨(some 6), .mv, [(.t 5)], none⟩, ⟨(some 7), .mv, [(.t 0)], none⟩, ⟨(some 8), .len, [(.t 7)], none⟩, ⟨(some 9), (.bin .lss), [(.t 6), (.t 8)], none⟩]) (.cond (.t 9) .skip (.exit 0))) (.seq (.block 1 (.seq (.reg [⟨(some 12), .mv, [(.t 0)], none⟩, ⟨(some 13), .mv, [(.t 5)], none⟩, ⟨(some 14), .mv, [(.t 1)], none⟩, ⟨(some 15), (.iadr 4), [(.t 12), (.t 13)], none⟩, ⟨(some 16), (.fadr 0), [(.t 15)], none⟩, ⟨none, (.st 1), [(.t 16), (.t 14)], none⟩]) (.seq (.reg [⟨(some 17), .mv, [(.t 1)], none⟩, ⟨(some 18), (.bin .add), [(.t 17), (.c (.int .i64 1))], none⟩, ⟨(some 1), .mv, [(.t 18)], none⟩]) (.seq (.reg [⟨(some 19), .mv, [(.t 0)], none⟩, ⟨(some 20), .mv, [(.t 5)], none⟩, ⟨(some 21), .mv, [(.t 1)], none⟩, ⟨(some 22), (.iadr 4), [(.t 19), (.t 20)], none⟩, ⟨(some 23), (.fadr 1), [(.t 22)], none⟩, ⟨none, (.st 1), [(.t 23), (.t 21)], none⟩]) (.seq (.reg [⟨(some 24), .mv, [(.t 1)], none⟩, ⟨(some 25), (.bin .add), [(.t 24), (.c (.int .i64 1))], none⟩, ⟨(some 1), .mv, [(.t 25)], none⟩]) (.seq (.reg [⟨(some 26), .mv, [(.t 0)], none⟩, ⟨(some 27), .mv, [(.t 5)], none⟩, ⟨(some 28), .mv, [(.t 1)], none⟩, ⟨(some 29), (.iadr 4), [(.t 26), (.t 27)], none⟩, ⟨(some 30), (.fadr 2), [(.t 29)], none⟩, ⟨none, (.st 1), [(.t 30), (.t 28)], none⟩]) (.seq (.reg [⟨(some 31), .mv, [(.t 1)], none⟩, ⟨(some 32), (.bin .add), [(.t 31), (.c (.int .i64 1))], none⟩, ⟨(some 1), .mv, [(.t 32)], none⟩]) (.seq (.reg [⟨(some 33), .mv, [(.t 0)], none⟩, ⟨(some 34), .mv, [(.t 5)], none⟩, ⟨(some 35), .mv, [(.t 1)], none⟩, ⟨(some 36), (.bin .rem), [(.t 35), (.c (.int .i64 3))], none⟩, ⟨(some 37), (.bin .eql), [(.t 36), (.c (.int .i64 0))], none⟩, ⟨(some 38), (.iadr 4), [(.t 33), (.t 34)], none⟩, ⟨(some 39), (.fadr 3), [(.t 38)], none⟩, ⟨none, (.st 1), [(.t 39), (.t 37)], none⟩]) (.reg [⟨(some 40), .mv, [(.t 1)], none⟩, ⟨(some 41), (.bin .add), [(.t 40), (.c (.int .i64 1))], none⟩, ⟨(some 1), .mv, [(.t 41)], none⟩]))))))))) (.reg [⟨(some 10), .mv, [(.t 5)], none⟩, ⟨(some 11), (.bin .add), [(.t 10), (.c (.int .i64 1))], none⟩, ⟨(some 5), .mv, [(.t 11)], none⟩])))))) (.seq (.reg [⟨(some 42), .mv, [(.t 1)], none⟩, ⟨(some 4), .mv, [(.t 42)], none⟩]) .ret)))
theorem b_laws_markEdgeS : Body Try.prog 93 43 c_laws_markEdgeS [(.t 4)] := body_mk Try.func93 (by kernel_rfl) (by decide)

def c_laws_heldEdgeS : ICode := (.seq (.reg [⟨(some 4), .mv, [(.c (.int .i64 0))], none⟩]) (.seq (.seq (.reg [⟨(some 5), .mv, [(.c (.int .i64 0))], none⟩]) (.block 0 (.loop (.seq (.seq (.reg [⟨(some 6), .mv, [(.t 5)], none⟩, ⟨(some 7), .mv, [(.t 0)], none⟩, ⟨(some 8), .len, [(.t 7)], none⟩, ⟨(some 9), (.bin .lss), [(.t 6), (.t 8)], none⟩]) (.cond (.t 9) .skip (.exit 0))) (.seq (.block 1 (.seq (.seq (.reg [⟨(some 12), .mv, [(.t 0)], none⟩, ⟨(some 13), .mv, [(.t 5)], none⟩, ⟨(some 14), (.iadr 4), [(.t 12), (.t 13)], none⟩, ⟨(some 15), (.fadr 0), [(.t 14)], none⟩, ⟨(some 16), .ld1, [(.t 15)], none⟩, ⟨(some 17), .mv, [(.t 1)], none⟩, ⟨(some 18), (.bin .neq), [(.t 16), (.t 17)], none⟩]) (.cond (.t 18) (.seq (.reg [⟨(some 4), .mv, [(.c (.int .i64 (-1)))], none⟩]) .ret) .skip)) (.seq (.reg [⟨(some 19), .mv, [(.t 1)], none⟩, ⟨(some 20), (.bin .add), [(.t 19), (.c (.int .i64 1))], none⟩, ⟨(some 1), .mv, [(.t 20)], none⟩]) (.seq (.seq (.reg [⟨(some 21), .mv, [(.t 0)], none⟩, ⟨(some 22), .mv, [(.t 5)], none⟩, ⟨(some 23), (.iadr 4), [(.t 21), (.t 22)], none⟩, ⟨(some 24), (.fadr 1), [(.t 23)], none⟩, ⟨(some 25), .ld1, [(.t 24)], none⟩, ⟨(some 26), .mv, [(.t 1)], none⟩, ⟨(some 27), (.bin .neq), [(.t 25), (.t 26)], none⟩]) (.cond (.t 27) (.seq (.reg [⟨(some 4), .mv, [(.c (.int .i64 (-1)))], none⟩]) .ret) .skip)) (.seq (.reg [⟨(some 28), .mv, [(.t 1)], none⟩, ⟨(some 29), (.bin .add), [(.t 28), (.c (.int .i64 1))], none⟩, ⟨(some 1), .mv, [(.t 29)], none⟩]) (.seq (.seq (.reg [⟨(some 30), .mv, [(.t 0)], none⟩, ⟨(some 31), .mv, [(.t 5)], none⟩, ⟨(some 32), (.iadr 4), [(.t 30), (.t 31)], none⟩, ⟨(some 33), (.fadr 2), [(.t 32)], none⟩, ⟨(some 34), .ld1, [(.t 33)], none⟩, ⟨(some 35), .mv, [(.t 1)], none⟩, ⟨(some 36), (.bin .neq), [(.t 34), (.t 35)], none⟩]) (.cond (.t 36) (.seq (.reg [⟨(some 4), .mv, [(.c (.int .i64 (-1)))], none⟩]) .ret) .skip)) (.seq (.reg [⟨(some 37), .mv, [(.t 1)], none⟩, ⟨(some 38), (.bin .add), [(.t 37), (.c (.int .i64 1))], none⟩, ⟨(some 1), .mv, [(.t 38)], none⟩]) (.seq (.seq (.reg [⟨(some 39), .mv, [(.t 0)], none⟩, ⟨(some 40), .mv, [(.t 5)], none⟩, ⟨(some 41), (.iadr 4), [(.t 39), (.t 40)], none⟩, ⟨(some 42), (.fadr 3), [(.t 41)], none⟩, ⟨(some 43), .ld1, [(.t 42)], none⟩, ⟨(some 44), .mv, [(.t 1)], none⟩, ⟨(some 45), (.bin .rem), [(.t 44), (.c (.int .i64 3))], none⟩, ⟨(some 46), (.bin .eql), [(.t 45), (.c (.int .i64 0))], none⟩, ⟨(some 47), (.beq true), [(.t 43), (.t 46)], none⟩]) (.cond (.t 47) (.seq (.reg [⟨(some 4), .mv, [(.c (.int .i64 (-1)))], none⟩]) .ret) .skip)) (.reg [⟨(some 48), .mv, [(.t 1)], none⟩, ⟨(some 49), (.bin .add), [(.t 48), (.c (.int .i64 1))], none⟩, ⟨(some 1), .mv, [(.t 49)], none⟩]))))))))) (.reg [⟨(some 10), .mv, [(.t 5)], none⟩, ⟨(some 11), (.bin .add), [(.t 10), (.c (.int .i64 1))], none⟩, ⟨(some 5), .mv, [(.t 11)], none⟩])))))) (.seq (.reg [⟨(some 50), .mv, [(.t 1)], none⟩, ⟨(some 4), .mv, [(.t 50)], none⟩]) .ret)))
theorem b_laws_heldEdgeS : Body Try.prog 94 51 c_laws_heldEdgeS [(.t 4)] := body_mk Try.func94 (by kernel_rfl) (by decide)

def c_laws_markAuto : ICode := (.seq (.reg [⟨(some 2), (.box 4), [(.t 0)], none⟩, ⟨(some 4), .mv, [(.c (.int .i64 0))], none⟩]) (.seq (.reg [⟨(some 5), (.fadr 3), [(.t 2)], none⟩, ⟨(some 6), .ld1, [(.t 5)], none⟩, ⟨(some 7), .mv, [(.t 1)], none⟩, ⟨(some 8), (.call 93), [(.t 6), (.t 7)], none⟩, ⟨(some 1), .mv, [(.t 8)], none⟩]) (.seq (.reg [⟨(some 9), .mv, [(.t 1)], none⟩, ⟨(some 4), .mv, [(.t 9)], none⟩]) .ret)))
theorem b_laws_markAuto : Body Try.prog 36 10 c_laws_markAuto [(.t 4)] := body_mk Try.func36 (by kernel_rfl) (by decide)

def c_laws_heldAuto : ICode := (.seq (.reg [⟨(some 2), (.box 4), [(.t 0)], none⟩, ⟨(some 4), .mv, [(.c (.int .i64 0))], none⟩]) (.seq (.reg [⟨(some 5), (.fadr 3), [(.t 2)], none⟩, ⟨(some 6), .ld1, [(.t 5)], none⟩, ⟨(some 7), .mv, [(.t 1)], none⟩, ⟨(some 8), (.call 94), [(.t 6), (.t 7)], none⟩, ⟨(some 1), .mv, [(.t 8)], none⟩]) (.seq (.seq (.reg [⟨(some 9), .mv, [(.t 1)], none⟩, ⟨(some 10), (.bin .lss), [(.t 9), (.c (.int .i64 0))], none⟩]) (.cond (.t 10) (.seq (.reg [⟨(some 4), .mv, [(.c (.int .i64 (-1)))], none⟩]) .ret) .skip)) (.seq (.reg [⟨(some 11), .mv, [(.t 1)], none⟩, ⟨(some 4), .mv, [(.t 11)], none⟩]) .ret))))
theorem b_laws_heldAuto : Body Try.prog 37 12 c_laws_heldAuto [(.t 4)] := body_mk Try.func37 (by kernel_rfl) (by decide)


/-- the i-th edge of those that are numbered from k on -/
def markE (k : Int) (i : Nat) : EdgeD := ⟨k + 4 * i, k + 4 * i + 1, k + 4 * i + 2, (k + 4 * i + 3).tmod 3 == 0⟩
def marksE (k : Int) (n : Nat) : List EdgeD := (List.range n).map (markE k)

@[simp] theorem length_marksE (k : Int) (n : Nat) : (marksE k n).length = n := by simp [marksE]
theorem marksE_at {k : Int} {n i : Nat} (h : i < n) : (marksE k n).getD i default = markE k i := by simp [marksE, h]
theorem marksE_succ (k : Int) (n : Nat) : marksE k (n + 1) = marksE k n ++ [markE k n] := by simp [marksE, List.range_succ]

/-- one more is written over -/
theorem over_set {α : Type} {f : α → List AV} {p l : List α} {y : α} {i : Nat} (hp : p.length = i) (hi : i < l.length) : ((p ++ l.drop i).map f).set i (f y) = ((p ++ [y]) ++ l.drop (i + 1)).map f := by
  subst hp
  rw [List.drop_eq_getElem_cons hi, List.map_append, List.set_append_right _ _ (by simp)]
  simp only [List.length_map, Nat.sub_self, List.map_cons, List.set_cons_zero, List.map_append, List.append_assoc]
  rfl
theorem over_len {α : Type} {f : α → List AV} {p l : List α} {i : Nat} (hp : p.length = i) (hi : i ≤ l.length) : ((p ++ l.drop i).map f).length = l.length := by
  simp; omega

def GMarkEdgeS : GFun := fun xs objs Q => ∃ l k, xs = [.ref 0 0 l.length, .int .i64 k] ∧ objs = [.arr 4 (edgeRows l)] ∧ l.length ≤ 1073741824 ∧ 0 ≤ k ∧ k ≤ 1152921504606846976 ∧ Q (.int .i64 (k + 4 * l.length)) [some (.arr 4 (edgeRows (marksE k l.length)))]
theorem GMarkEdgeS_mk {l : List EdgeD} {k : Int} {Q : AV → List (Option AObj) → Prop} (h1 : l.length ≤ 1073741824) (h2 : 0 ≤ k) (h3 : k ≤ 1152921504606846976) (hq : Q (.int .i64 (k + 4 * l.length)) [some (.arr 4 (edgeRows (marksE k l.length)))]) :
    GMarkEdgeS [.ref 0 0 l.length, .int .i64 k] [.arr 4 (edgeRows l)] Q := ⟨l, k, rfl, rfl, h1, h2, h3, hq⟩

theorem s_laws_markEdgeS : GenSound Try.prog 93 1 GMarkEdgeS := by
  have hR : Rely Try.prog (ctxOf []) := rely_nil mixed
  refine gen_of_aw b_laws_markEdgeS ?_
  rintro xs objs Q - ⟨l, k, rfl, rfl, h1, h2, h3, hq⟩ -
  refine ⟨by simp, vc2_sound hR _ _ _ _ _ ?_⟩
  conv => whnf
  repeat' ((first
    | contradiction
    | (refine And.intro (fun hb => ?_) (fun hb => ?_) <;> first | contradiction | ((try simp only [SB, reduceCtorEq] at hb); try (exfalso; first | contradiction | omega)))
    | refine And.intro rfl ?_
    | refine ⟨_, IntWalk.i64_in _ (by omega), ?_⟩
    | rw [ints_at (by omega)]
    | rw [ints_at0 (by omega)]
    | rw [ints_at' (by omega) (by omega)]
    | refine And.intro (lens_all rfl) ?_
    | refine And.intro (show _ ≤ _ ∧ (_ + 1) * _ ≤ _ ∧ _ + 1 ≤ _ by first | omega | (simp; omega)) ?_
    | refine And.intro (show 1 * _ ≤ _ ∧ 1 ≤ _ by omega) ?_
    | refine And.intro (by first | omega | (simp; omega) | (show _ ∧ _; simp; done)) ?_
    | fail) <;> conv => whnf)
  refine Lp.intro (α := Nat) (fun i => i ≤ l.length) (fun i => l.length - i) (fun i => [(0, .ref 0 0 l.length), (1, .int .i64 (k + 4 * i)), (5, .int .i64 i)]) (fun i => [some (.arr 4 ((marksE k i ++ l.drop i).map edgeRow))]) ?_ ?_
  · refine ⟨0, by omega, [some 0], rfl, rfl, And.intro (And.intro rfl ?_) trivial, ?_⟩
    · simp [marksE, edgeRows]
    · repeat' (first
        | exact trivial
        | refine ⟨?_, ?_⟩
        | fail)
      all_goals first
        | with_reducible rfl
        | (conv => whnf
           try left
           conv => lhs; whnf
           first
             | rfl
             | exact congrArg (AV.int .i64) (by omega)
             | skip)
  · intro i hi
    have hlen := over_len (f := edgeRow) (length_marksE k i) hi
    refine vc2_sound hR _ _ _ _ _ ?_
    conv => whnf
    repeat' ((first
      | contradiction
      | (refine And.intro (fun hb => ?_) (fun hb => ?_) <;> first | contradiction | ((try simp only [SB, reduceCtorEq] at hb); try (exfalso; first | contradiction | omega)))
      | refine And.intro rfl ?_
      | refine ⟨_, IntWalk.i64_in _ (by omega), ?_⟩
      | rw [ints_at (by omega)]
      | rw [ints_at0 (by omega)]
      | rw [ints_at' (by omega) (by omega)]
      | refine And.intro (lens_all rfl) ?_
      | refine And.intro (show _ ≤ _ ∧ (_ + 1) * _ ≤ _ ∧ _ + 1 ≤ _ by first | omega | (simp; omega)) ?_
      | refine And.intro (show 1 * _ ≤ _ ∧ 1 ≤ _ by omega) ?_
      | refine And.intro (by first | omega | (simp; omega) | (show _ ∧ _; simp; done)) ?_
      | (rw [map_at0 (f := edgeRow) (by simp [length_marksE]; omega)])
      | (rw [List.getElem?_set_self (by (try simp only [List.length_set]); rw [hlen]; omega)])
      | fail) <;> conv => whnf)
    · refine ⟨i + 1, by omega, by omega, [some 0], rfl, rfl, And.intro (And.intro rfl ?_) trivial, ?_⟩
      · simp only [List.set_set]
        rw [marksE_succ, ← over_set (length_marksE k i) (by omega)]
        show (List.map edgeRow _).set (0 + ((i : Nat) : Int).toNat) _ = _
        rw [Nat.zero_add]
        refine congrArg (List.set _ _) ?_
        rw [show k + 4 * (i : Int) + 1 + 1 + 1 = k + 4 * i + 3 by omega] at hb
        simp only [edgeRow, markE, List.cons.injEq, AV.int.injEq, AV.bool.injEq, true_and, and_true]
        refine ⟨by omega, ?_⟩
        simp [hb]
      · repeat' (first
          | exact trivial
          | refine ⟨?_, ?_⟩
          | fail)
        all_goals first
          | with_reducible rfl
          | (conv => whnf
             try left
             conv => lhs; whnf
             first
               | rfl
               | exact congrArg (AV.int .i64) (by omega)
               | skip)
    · refine ⟨i + 1, by omega, by omega, [some 0], rfl, rfl, And.intro (And.intro rfl ?_) trivial, ?_⟩
      · simp only [List.set_set]
        rw [marksE_succ, ← over_set (length_marksE k i) (by omega)]
        show (List.map edgeRow _).set (0 + ((i : Nat) : Int).toNat) _ = _
        rw [Nat.zero_add]
        refine congrArg (List.set _ _) ?_
        rw [show k + 4 * (i : Int) + 1 + 1 + 1 = k + 4 * i + 3 by omega] at hb
        simp only [edgeRow, markE, List.cons.injEq, AV.int.injEq, AV.bool.injEq, true_and, and_true]
        refine ⟨by omega, ?_⟩
        simp [hb]
      · repeat' (first
          | exact trivial
          | refine ⟨?_, ?_⟩
          | fail)
        all_goals first
          | with_reducible rfl
          | (conv => whnf
             try left
             conv => lhs; whnf
             first
               | rfl
               | exact congrArg (AV.int .i64) (by omega)
               | skip)
    · have hil : i = l.length := by omega
      refine ⟨.inl rfl, ?_⟩
      conv => whnf
      subst hil
      refine ⟨[some 0], .int .i64 (k + 4 * l.length), [some (.arr 4 (edgeRows (marksE k l.length)))], ⟨rfl, And.intro (And.intro rfl ?_) trivial⟩, .inl rfl, rfl, hq⟩
      simp [edgeRows]

def heldE (l : List EdgeD) (k : Int) : Int := if l = marksE k l.length then k + 4 * l.length else -1
def RHeldEdgeS (xs : List AV) (r : AV) (objs : List AObj) : Prop := ∃ l k, xs = [.val (edgeRows l), .int .i64 k] ∧ l.length ≤ 1073741824 ∧ 0 ≤ k ∧ k ≤ 1152921504606846976 ∧ r = .int .i64 (heldE l k) ∧ objs = []
theorem RHeldEdgeS_eq {xs : List AV} {l : List EdgeD} {k : Int} (h : xs = [.val (edgeRows l), .int .i64 k]) (h1 : l.length ≤ 1073741824) (h2 : 0 ≤ k) (h3 : k ≤ 1152921504606846976) : RHeldEdgeS xs (.int .i64 (heldE l k)) [] := ⟨l, k, h, h1, h2, h3, rfl, rfl⟩
theorem heldE_marks (k : Int) (n : Nat) : heldE (marksE k n) k = k + 4 * n := by simp [heldE, length_marksE]

theorem markE_iff {x : EdgeD} {k : Int} {i : Nat} : x = markE k i ↔ x.src = k + 4 * i ∧ x.letter = k + 4 * i + 1 ∧ x.dst = k + 4 * i + 2 ∧ x.mark = ((k + 4 * i + 3).tmod 3 == 0) := by
  cases x; simp [markE]

set_option maxHeartbeats 4000000 in
theorem s_laws_heldEdgeS : PureSound Try.prog 94 RHeldEdgeS := by
  have hR : Rely Try.prog (ctxOf []) := rely_nil mixed
  refine pure_of_aw b_laws_heldEdgeS ?_
  rintro xs r objs ⟨l, k, rfl, h1, h2, h3, rfl, rfl⟩ -
  have hle := length_edgeRows l
  refine ⟨by simp, vc2_sound hR _ _ _ _ _ ?_⟩
  conv => whnf
  repeat' ((first
    | contradiction
    | (refine And.intro (fun hb => ?_) (fun hb => ?_) <;> first | contradiction | ((try simp only [SB, reduceCtorEq] at hb); try (exfalso; first | contradiction | omega)))
    | refine And.intro rfl ?_
    | refine ⟨_, IntWalk.i64_in _ (by omega), ?_⟩
    | rw [ints_at (by omega)]
    | rw [ints_at0 (by omega)]
    | rw [ints_at' (by omega) (by omega)]
    | refine And.intro (lens_all rfl) ?_
    | refine And.intro (show _ ≤ _ ∧ (_ + 1) * _ ≤ _ ∧ _ + 1 ≤ _ by first | omega | (simp; omega)) ?_
    | refine And.intro (show 1 * _ ≤ _ ∧ 1 ≤ _ by omega) ?_
    | refine And.intro (by first | omega | (simp; omega) | (show _ ∧ _; simp; done)) ?_
    | fail) <;> conv => whnf)
  refine Lp.intro (α := Nat) (fun i => i ≤ l.length ∧ ∀ j, j < i → l.getD j default = markE k j) (fun i => l.length - i) (fun i => [(0, .val (edgeRows l)), (1, .int .i64 (k + 4 * i)), (5, .int .i64 i)]) (fun _ => []) ?_ ?_
  · refine ⟨0, ⟨by omega, by omega⟩, [], rfl, rfl, trivial, ?_⟩
    repeat' (first
      | exact trivial
      | refine ⟨?_, ?_⟩
      | fail)
    all_goals first
      | with_reducible rfl
      | (conv => whnf
         try left
         conv => lhs; whnf
         first
           | rfl
           | exact congrArg (AV.int .i64) (by omega)
           | skip)
  · rintro i ⟨hi, hall⟩
    have hno : ∀ (hlt : i < l.length), l.getD i default ≠ markE k i → AV.int .i64 (-1) = AV.int .i64 (heldE l k) := by
      intro hlt hne
      refine congrArg (AV.int .i64) ?_
      unfold heldE
      rw [if_neg]
      intro he
      have : l.getD i default = (marksE k l.length).getD i default := congrArg (fun z => z.getD i default) he
      rw [marksE_at hlt] at this
      exact hne this
    have e3 : k + 4 * (i : Int) + 1 + 1 + 1 = k + 4 * i + 3 := by omega
    refine vc2_sound hR _ _ _ _ _ ?_
    conv => whnf
    repeat' ((first
      | contradiction
      | (refine And.intro (fun hb => ?_) (fun hb => ?_) <;> first | contradiction | ((try simp only [SB, reduceCtorEq] at hb); try (exfalso; first | contradiction | omega)))
      | refine And.intro rfl ?_
      | refine ⟨_, IntWalk.i64_in _ (by omega), ?_⟩
      | rw [ints_at (by omega)]
      | rw [ints_at0 (by omega)]
      | rw [ints_at' (by omega) (by omega)]
      | refine And.intro (lens_all rfl) ?_
      | refine And.intro (show _ ≤ _ ∧ (_ + 1) * _ ≤ _ ∧ _ + 1 ≤ _ by first | omega | (simp; omega)) ?_
      | refine And.intro (show 1 * _ ≤ _ ∧ 1 ≤ _ by omega) ?_
      | refine And.intro (by first | omega | (simp; omega) | (show _ ∧ _; simp; done)) ?_
      | rw [show (edgeRows l)[((i : Nat) : Int).toNat]? = some (edgeRow (l.getD i default)) from map_at (by omega)]
      | fail) <;> conv => whnf)
    all_goals first
      | (skip
         refine ⟨.inl rfl, ?_⟩
         conv => whnf
         refine ⟨[], ⟨rfl, trivial⟩, ?_, rfl, rfl⟩
         conv => whnf
         left
         conv => lhs; whnf
         refine hno (by omega) (fun he => ?_)
         obtain ⟨g1, g2, g3, g4⟩ := markE_iff.1 he
         first | omega | (rw [e3] at *; simp_all))
      | (refine ⟨i + 1, ⟨by omega, fun j hj => ?_⟩, by omega, [], rfl, rfl, trivial, ?_⟩
         · by_cases hji : j = i
           · subst hji
             exact markE_iff.2 ⟨by omega, by omega, by omega, by rw [← e3]; simp_all⟩
           · exact hall j (by omega)
         · repeat' (first
             | exact trivial
             | refine ⟨?_, ?_⟩
             | fail)
           all_goals first
             | with_reducible rfl
             | (conv => whnf
                try left
                conv => lhs; whnf
                first
                  | rfl
                  | exact congrArg (AV.int .i64) (by omega)
                  | skip)
         done)
      | (skip
         refine ⟨.inl rfl, ?_⟩
         conv => whnf
         refine ⟨[], ⟨rfl, trivial⟩, ?_, rfl, rfl⟩
         conv => whnf
         left
         conv => lhs; whnf
         refine congrArg (AV.int .i64) ?_
         have hil : i = l.length := by omega
         unfold heldE
         rw [if_pos, hil]
         refine eq_of_getDD (by rw [length_marksE]) (fun j hj => ?_)
         rw [marksE_at hj]
         exact hall j (by omega))

def GMarkAuto : GFun := fun xs objs Q => ∃ (a : AutoD) (k : Int), xs = [.agg [.int .i64 a.letters, .int .i64 a.states, .int .i64 a.start, .ref 0 0 a.edges.length], .int .i64 k] ∧ objs = [.arr 4 (edgeRows a.edges)] ∧ a.edges.length ≤ 1073741824 ∧ 0 ≤ k ∧ k ≤ 1152921504606846976 ∧
  Q (.int .i64 (k + 4 * a.edges.length)) [some (.arr 4 (edgeRows (marksE k a.edges.length)))]
theorem GMarkAuto_mk {a : AutoD} {k : Int} {Q : AV → List (Option AObj) → Prop} (h1 : a.edges.length ≤ 1073741824) (h2 : 0 ≤ k) (h3 : k ≤ 1152921504606846976) (hq : Q (.int .i64 (k + 4 * a.edges.length)) [some (.arr 4 (edgeRows (marksE k a.edges.length)))]) :
    GMarkAuto [.agg [.int .i64 a.letters, .int .i64 a.states, .int .i64 a.start, .ref 0 0 a.edges.length], .int .i64 k] [.arr 4 (edgeRows a.edges)] Q := ⟨a, k, rfl, rfl, h1, h2, h3, hq⟩

theorem s_laws_markAuto : GenSound Try.prog 36 1 GMarkAuto := by
  have hR : Rely Try.prog (ctxOf [(93, .gen 1 GMarkEdgeS)]) := rely_cons b_laws_markEdgeS.has s_laws_markEdgeS (rely_nil mixed)
  refine gen_of_aw b_laws_markAuto ?_
  rintro xs objs Q - ⟨a, k, rfl, rfl, h1, h2, h3, hq⟩ -
  refine ⟨by simp, vc2_sound hR _ _ _ _ _ ?_⟩
  conv => whnf
  repeat' ((first
    | contradiction
    | (refine And.intro (fun hb => ?_) (fun hb => ?_) <;> first | contradiction | ((try simp only [SB, reduceCtorEq] at hb); try (exfalso; first | contradiction | omega)))
    | refine And.intro rfl ?_
    | refine ⟨_, IntWalk.i64_in _ (by omega), ?_⟩
    | rw [ints_at (by omega)]
    | rw [ints_at0 (by omega)]
    | rw [ints_at' (by omega) (by omega)]
    | refine And.intro (lens_all rfl) ?_
    | refine And.intro (show _ ≤ _ ∧ (_ + 1) * _ ≤ _ ∧ _ + 1 ≤ _ by first | omega | (simp; omega)) ?_
    | refine And.intro (show 1 * _ ≤ _ ∧ 1 ≤ _ by omega) ?_
    | refine And.intro (by first | omega | (simp; omega) | (show _ ∧ _; simp; done)) ?_
    | refine ⟨GMarkEdgeS_mk (by omega) (by omega) (by omega) ?_⟩
    | fail) <;> conv => whnf)
  refine ⟨.inl rfl, ?_⟩
  conv => whnf
  exact ⟨[some 0], .int .i64 (k + 4 * a.edges.length), [some (.arr 4 (edgeRows (marksE k a.edges.length)))], ⟨rfl, And.intro (And.intro rfl rfl) trivial⟩, .inl rfl, rfl, hq⟩

def RHeldAuto (xs : List AV) (r : AV) (objs : List AObj) : Prop := ∃ a k, xs = [.agg (autoRow a), .int .i64 k] ∧ a.edges.length ≤ 1073741824 ∧ 0 ≤ k ∧ k ≤ 1152921504606846976 ∧ r = .int .i64 (heldE a.edges k) ∧ objs = []
theorem RHeldAuto_eq {xs : List AV} {a : AutoD} {k : Int} (h : xs = [.agg (autoRow a), .int .i64 k]) (h1 : a.edges.length ≤ 1073741824) (h2 : 0 ≤ k) (h3 : k ≤ 1152921504606846976) : RHeldAuto xs (.int .i64 (heldE a.edges k)) [] := ⟨a, k, h, h1, h2, h3, rfl, rfl⟩

theorem heldE_le {l : List EdgeD} {k : Int} (hk : 0 ≤ k) : 0 ≤ heldE l k ∨ heldE l k = -1 := by
  unfold heldE; split
  · exact .inl (by omega)
  · exact .inr rfl

theorem s_laws_heldAuto : PureSound Try.prog 37 RHeldAuto := by
  have hR : Rely Try.prog (ctxOf [(94, .pure RHeldEdgeS)]) := rely_cons b_laws_heldEdgeS.has s_laws_heldEdgeS (rely_nil mixed)
  refine pure_of_aw b_laws_heldAuto ?_
  rintro xs r objs ⟨a, k, rfl, h1, h2, h3, rfl, rfl⟩ -
  have hh := heldE_le (l := a.edges) h2
  refine ⟨by simp, vc2_sound hR _ _ _ _ _ ?_⟩
  conv => whnf
  repeat' ((first
    | contradiction
    | (refine And.intro (fun hb => ?_) (fun hb => ?_) <;> first | contradiction | ((try simp only [SB, reduceCtorEq] at hb); try (exfalso; first | contradiction | omega)))
    | refine And.intro rfl ?_
    | refine ⟨_, IntWalk.i64_in _ (by omega), ?_⟩
    | rw [ints_at (by omega)]
    | rw [ints_at0 (by omega)]
    | rw [ints_at' (by omega) (by omega)]
    | refine And.intro (lens_all rfl) ?_
    | refine And.intro (show _ ≤ _ ∧ (_ + 1) * _ ≤ _ ∧ _ + 1 ≤ _ by first | omega | (simp; omega)) ?_
    | refine And.intro (show 1 * _ ≤ _ ∧ 1 ≤ _ by omega) ?_
    | refine And.intro (by first | omega | (simp; omega) | (show _ ∧ _; simp; done)) ?_
    | refine ⟨_, _, RHeldEdgeS_eq (l := a.edges) (k := k) rfl (by omega) (by omega) (by omega), ?_⟩
    | fail) <;> conv => whnf)
  · refine ⟨.inl rfl, ?_⟩
    conv => whnf
    refine ⟨[], ⟨rfl, trivial⟩, ?_, rfl, rfl⟩
    conv => whnf
    left
    conv => lhs; whnf
    exact congrArg (AV.int .i64) (by omega)
  · refine ⟨.inl rfl, ?_⟩
    conv => whnf
    refine ⟨[], ⟨rfl, trivial⟩, ?_, rfl, rfl⟩
    conv => whnf
    left
    conv => lhs; whnf

end Go.Proofs.Ytpfbkblgefddlaa.Ct
