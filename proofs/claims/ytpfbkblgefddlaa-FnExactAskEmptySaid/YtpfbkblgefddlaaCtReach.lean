/- What edges lead to: the program's and the reference's sets. -/
import Derived.Test.YtpfbkblgefddlaaCtGraph2
namespace Go.Proofs.Ytpfbkblgefddlaa.Ct
set_option linter.unusedSimpArgs false
set_option linter.unusedVariables false
open Go Go.Proofs Go.Proofs.Ytpfbkblgefddlaa.Av Go.Proofs.Ytpfbkblgefddlaa.Pl

def c_impl_Auto_reach : ICode := (.seq (.reg [⟨(some 4), .mv, [(.c (.int .i64 0))], none⟩]) (.block 0 (.loop (.block 1 (.seq (.reg [⟨(some 8), .mv, [(.t 1)], none⟩, ⟨(some 5), .mv, [(.t 8)], none⟩]) (.seq (.seq (.reg [⟨(some 9), .mv, [(.t 0)], none⟩, ⟨(some 10), .nck, [(.t 9)], none⟩, ⟨(some 11), (.fadr 3), [(.t 10)], none⟩, ⟨(some 12), .ld1, [(.t 11)], none⟩, ⟨(some 13), .len, [(.t 12)], none⟩, ⟨(some 14), .mv, [(.c (.int .i64 0))], none⟩]) (.block 2 (.loop (.seq (.reg [⟨(some 15), (.bin .lss), [(.t 14), (.t 13)], none⟩]) (.seq (.cond (.t 15) .skip (.exit 2)) (.seq (.block 3 (.seq (.reg [⟨(some 16), (.iadr 4), [(.t 12), (.t 14)], none⟩, ⟨(some 17), (.ldn 4), [(.t 16)], none⟩, ⟨(some 7), (.alc [(.int .i64 0), (.int .i64 0), (.int .i64 0), (.bool false)]), [], none⟩, ⟨none, (.st 4), [(.t 7), (.t 17)], none⟩]) (.seq (.reg [⟨(some 18), .mv, [(.t 5)], none⟩, ⟨(some 19), (.fadr 0), [(.t 7)], none⟩, ⟨(some 20), .ld1, [(.t 19)], none⟩, ⟨(some 21), (.call 117), [(.t 18), (.t 20)], none⟩]) (.cond (.t 21) (.reg [⟨(some 22), .mv, [(.t 5)], none⟩, ⟨(some 23), (.fadr 2), [(.t 7)], none⟩, ⟨(some 24), .ld1, [(.t 23)], none⟩, ⟨(some 25), (.call 119), [(.t 24)], none⟩, ⟨(some 26), (.bin .or), [(.t 22), (.t 25)], none⟩, ⟨(some 5), .mv, [(.t 26)], none⟩]) .skip)))) (.reg [⟨(some 27), (.bin .add), [(.t 14), (.c (.int .i64 1))], none⟩, ⟨(some 14), .mv, [(.t 27)], none⟩]))))))) (.seq (.seq (.reg [⟨(some 28), .mv, [(.t 5)], none⟩, ⟨(some 29), .mv, [(.t 1)], none⟩, ⟨(some 30), (.bin .eql), [(.t 28), (.t 29)], none⟩]) (.cond (.t 30) (.seq (.reg [⟨(some 31), .mv, [(.t 1)], none⟩, ⟨(some 4), .mv, [(.t 31)], none⟩]) .ret) .skip)) (.reg [⟨(some 32), .mv, [(.t 5)], none⟩, ⟨(some 1), .mv, [(.t 32)], none⟩]))))))))
theorem b_impl_Auto_reach : Body Try.prog 114 33 c_impl_Auto_reach [(.t 4)] := body_mk Try.func114 (by kernel_rfl) (by decide)

def c_spec_l4Reach : ICode := (.seq (.reg [⟨(some 2), (.box 4), [(.t 0)], none⟩, ⟨(some 4), .mv, [(.c (.int .i64 0))], none⟩]) (.seq (.seq (.reg [⟨(some 5), .mv, [(.c (.int .i64 0))], none⟩]) (.block 0 (.loop (.seq (.seq (.reg [⟨(some 7), .mv, [(.t 5)], none⟩, ⟨(some 8), (.fadr 1), [(.t 2)], none⟩, ⟨(some 9), .ld1, [(.t 8)], none⟩, ⟨(some 10), (.bin .leq), [(.t 7), (.t 9)], none⟩]) (.cond (.t 10) .skip (.exit 0))) (.seq (.block 1 (.seq (.reg [⟨(some 6), .mv, [(.c (.int .i64 0))], none⟩]) (.block 2 (.loop (.seq (.seq (.reg [⟨(some 13), .mv, [(.t 6)], none⟩, ⟨(some 14), (.fadr 3), [(.t 2)], none⟩, ⟨(some 15), .ld1, [(.t 14)], none⟩, ⟨(some 16), .len, [(.t 15)], none⟩, ⟨(some 17), (.bin .lss), [(.t 13), (.t 16)], none⟩]) (.cond (.t 17) .skip (.exit 2))) (.seq (.block 3 (.seq (.reg [⟨(some 20), .mv, [(.t 1)], none⟩, ⟨(some 21), (.fadr 3), [(.t 2)], none⟩, ⟨(some 22), .ld1, [(.t 21)], none⟩, ⟨(some 23), .mv, [(.t 6)], none⟩, ⟨(some 24), (.iadr 4), [(.t 22), (.t 23)], none⟩, ⟨(some 25), (.fadr 0), [(.t 24)], none⟩, ⟨(some 26), .ld1, [(.t 25)], none⟩, ⟨(some 27), (.call 110), [(.t 20), (.t 26)], none⟩]) (.cond (.t 27) (.reg [⟨(some 28), .mv, [(.t 1)], none⟩, ⟨(some 29), (.fadr 3), [(.t 2)], none⟩, ⟨(some 30), .ld1, [(.t 29)], none⟩, ⟨(some 31), .mv, [(.t 6)], none⟩, ⟨(some 32), (.iadr 4), [(.t 30), (.t 31)], none⟩, ⟨(some 33), (.fadr 2), [(.t 32)], none⟩, ⟨(some 34), .ld1, [(.t 33)], none⟩, ⟨(some 35), (.call 112), [(.t 34)], none⟩, ⟨(some 36), (.bin .or), [(.t 28), (.t 35)], none⟩, ⟨(some 1), .mv, [(.t 36)], none⟩]) .skip))) (.reg [⟨(some 18), .mv, [(.t 6)], none⟩, ⟨(some 19), (.bin .add), [(.t 18), (.c (.int .i64 1))], none⟩, ⟨(some 6), .mv, [(.t 19)], none⟩]))))))) (.reg [⟨(some 11), .mv, [(.t 5)], none⟩, ⟨(some 12), (.bin .add), [(.t 11), (.c (.int .i64 1))], none⟩, ⟨(some 5), .mv, [(.t 12)], none⟩])))))) (.seq (.reg [⟨(some 37), .mv, [(.t 1)], none⟩, ⟨(some 4), .mv, [(.t 37)], none⟩]) .ret)))
theorem b_spec_l4Reach : Body Try.prog 109 38 c_spec_l4Reach [(.t 4)] := body_mk Try.func109 (by kernel_rfl) (by decide)


/-- the edges as steps -/
def EA (a : AutoD) (p q : Nat) : Prop := ∃ e ∈ a.edges, e.src.toNat = p ∧ e.dst.toNat = q
theorem mem_at {a : AutoD} {e : EdgeD} (he : e ∈ a.edges) : ∃ i, i < a.edges.length ∧ a.edges.getD i default = e := by
  obtain ⟨i, hi, rfl⟩ := List.getElem_of_mem he
  exact ⟨i, hi, by rw [List.getD_eq_getElem?_getD, List.getElem?_eq_getElem hi]; rfl⟩
theorem ea_lt {a : AutoD} (h : AutoOk a) {p q : Nat} (ha : EA a p q) : p < a.states.toNat ∧ q < a.states.toNat := by
  obtain ⟨e, he, rfl, rfl⟩ := ha
  obtain ⟨i, hi, rfl⟩ := mem_at he
  have := edge_in h hi
  unfold EdgeIn at this
  omega
theorem adj_auto {a : AutoD} (h : AutoOk a) {p q : Nat} : Adj (autoG a) p q ↔ EA a p q := by
  unfold autoG
  rw [adj_mkG]
  constructor
  · rintro ⟨_, m, hm⟩
    obtain ⟨e, he, h2⟩ := List.mem_map.1 hm
    cases h2
    exact ⟨e, he, rfl, rfl⟩
  · intro ha
    refine ⟨(ea_lt h ha).1, ?_⟩
    obtain ⟨e, he, rfl, rfl⟩ := ha
    exact ⟨_, List.mem_map.2 ⟨e, he, rfl⟩⟩
theorem gok_auto {a : AutoD} (h : AutoOk a) : GOk (autoG a) := gok_mkG fun e he => by
  obtain ⟨x, hx, rfl⟩ := List.mem_map.1 he
  exact (ea_lt h ⟨x, hx, rfl, rfl⟩).2

/-- what is reached in an automaton -/
noncomputable def autoR (a : AutoD) (X : Nat) : Nat := reachN (EA a) X 31

abbrev BitP (X : Nat) : Nat → Prop := fun i => X.testBit i = true
abbrev SubB (X Y : Nat) : Prop := ∀ p, BitP X p → BitP Y p

/-- a round over the edges: from X, as far as i -/
structure Rnd (a : AutoD) (S X Y i : Nat) : Prop where
  lt : Y < 2 ^ 31
  sub : SubB X Y
  rch : ∀ p, BitP Y p → Rch (EA a) (BitP S) p
  got : ∀ j, j < i → j < a.edges.length → BitP X (a.edges.getD j default).src.toNat → BitP Y (a.edges.getD j default).dst.toNat
  cls : (∀ p q, BitP X p → EA a p q → BitP X q) → Y = X

theorem Rnd.no {a : AutoD} {S X Y i : Nat} (h : Rnd a S X Y i) (hb : i < a.edges.length → Y.testBit (a.edges.getD i default).src.toNat = false) : Rnd a S X Y (i + 1) := by
  refine ⟨h.lt, h.sub, h.rch, fun j hj hjl hx => ?_, h.cls⟩
  by_cases hji : j = i
  · subst hji
    have := h.sub _ hx
    rw [show BitP Y (a.edges.getD j default).src.toNat ↔ Y.testBit (a.edges.getD j default).src.toNat = true from Iff.rfl, hb hjl] at this
    cases this
  · exact h.got j (by omega) hjl hx
theorem Rnd.yes {a : AutoD} (ha : AutoOk a) {S X Y i : Nat} (h : Rnd a S X Y i) (hi : i < a.edges.length) (hb : Y.testBit (a.edges.getD i default).src.toNat = true) : Rnd a S X (Y ||| 2 ^ (a.edges.getD i default).dst.toNat) (i + 1) := by
  have he : EA a (a.edges.getD i default).src.toNat (a.edges.getD i default).dst.toNat := ⟨_, getD_mem' hi, rfl, rfl⟩
  have hlt := ea_lt ha he
  have hs := ha.1.2.1
  refine ⟨ins_lt h.lt (by omega), fun p hp => testBit_ins.2 (.inl (h.sub p hp)), fun p hp => ?_, fun j hj hjl hx => ?_, fun hc => ?_⟩
  · rcases testBit_ins.1 hp with h1 | rfl
    · exact h.rch p h1
    · exact .step (h.rch _ hb) he
  · refine testBit_ins.2 ?_
    by_cases hji : j = i
    · subst hji; exact .inr rfl
    · exact .inl (h.got j (by omega) hjl hx)
  · have e := h.cls hc
    subst e
    refine bits_ext fun p => ⟨fun hp => ?_, fun hp => testBit_ins.2 (.inl hp)⟩
    rcases testBit_ins.1 hp with h1 | rfl
    · exact h1
    · exact hc _ _ hb he
theorem rnd_start {a : AutoD} {S X : Nat} (hX : X < 2 ^ 31) (hr : ∀ p, BitP X p → Rch (EA a) (BitP S) p) : Rnd a S X X 0 := ⟨hX, fun _ h => h, hr, fun j hj => by omega, fun _ => rfl⟩
theorem Rnd.closed {a : AutoD} {S X i : Nat} (h : Rnd a S X X i) (hi : a.edges.length ≤ i) : ∀ p q, BitP X p → EA a p q → BitP X q := by
  rintro p q hp ⟨e, he, rfl, rfl⟩
  obtain ⟨j, hj, rfl⟩ := mem_at he
  exact h.got j (by omega) hj hp
theorem reach_eq {a : AutoD} {S X : Nat} (hX : X < 2 ^ 31) (hs : SubB S X) (hr : ∀ p, BitP X p → Rch (EA a) (BitP S) p) (hc : ∀ p q, BitP X p → EA a p q → BitP X q) : X = autoR a S :=
  reachN_of hX hs hr hc

def RReach (xs : List AV) (r : AV) (objs : List AObj) : Prop := ∃ (a : AutoD) (X : Nat), xs = [.rptr (autoRow a) 0, .int .i64 ((X : Nat) : Int)] ∧ AutoOk a ∧ X < 2 ^ 31 ∧ r = .int .i64 ((autoR a X : Nat) : Int) ∧ objs = []
theorem RReach_eq {xs : List AV} {a : AutoD} {X : Nat} (hx : xs = [.rptr (autoRow a) 0, .int .i64 ((X : Nat) : Int)]) (h : AutoOk a) (h1 : X < 2 ^ 31) : RReach xs (.int .i64 ((autoR a X : Nat) : Int)) [] := ⟨a, X, hx, h, h1, rfl, rfl⟩

set_option maxHeartbeats 4000000 in
theorem s_impl_reach : PureSound Try.prog 114 RReach := by
  have hR : Rely Try.prog (ctxOf [(117, .pure RHas), (119, .pure RBit)]) := rely_cons b_impl_has.has s_impl_has (rely_cons b_impl_only.has s_impl_onlyB (rely_nil mixed))
  refine pure_of_aw b_impl_Auto_reach ?_
  rintro xs r objs ⟨a, S, rfl, ha, hS, rfl, rfl⟩ -
  have hs := ha.1.2.1
  have hle := length_edgeRows a.edges
  have hl := ha.2.1
  refine ⟨by simp, vc2_sound hR _ _ _ _ _ ?_⟩
  conv => whnf
  repeat' ((first
    | contradiction
    | (refine And.intro (fun hb => ?_) (fun hb => ?_) <;> first | contradiction | ((try simp only [SB, reduceCtorEq] at hb); try (exfalso; first | contradiction | omega)))
    | refine And.intro rfl ?_
    | refine ⟨_, IntWalk.i64_in _ (by omega), ?_⟩
    | rw [ints_at (by omega)]
    | rw [ints_at0 (by omega)]
    | rw [ints_at' (by omega) (by omega)]
    | refine And.intro (lens_all rfl) ?_
    | refine And.intro (show _ ≤ _ ∧ (_ + 1) * _ ≤ _ ∧ _ + 1 ≤ _ by first | omega | (simp; omega)) ?_
    | refine And.intro (show 1 * _ ≤ _ ∧ 1 ≤ _ by omega) ?_
    | refine And.intro (by first | omega | (simp; omega) | (show _ ∧ _; simp; done)) ?_
    | fail) <;> conv => whnf)
  refine Lp.intro (α := Nat) (fun X => X < 2 ^ 31 ∧ SubB S X ∧ ∀ p, BitP X p → Rch (EA a) (BitP S) p) (fun X => 2 ^ 31 - X) (fun X => [(0, .rptr (autoRow a) 0), (1, .int .i64 X)]) (fun _ => []) ?_ ?_
  · refine ⟨S, ⟨hS, fun _ h => h, fun p h => .base h⟩, [], rfl, rfl, trivial, ?_⟩
    exact ⟨.inl rfl, .inl rfl, trivial⟩
  rintro X ⟨hX, hsub, hrch⟩
  refine vc2_sound hR _ _ _ _ _ ?_
  conv => whnf
  repeat' ((first
    | contradiction
    | (refine And.intro (fun hb => ?_) (fun hb => ?_) <;> first | contradiction | ((try simp only [SB, reduceCtorEq] at hb); try (exfalso; first | contradiction | omega)))
    | refine And.intro rfl ?_
    | refine ⟨_, IntWalk.i64_in _ (by omega), ?_⟩
    | rw [ints_at (by omega)]
    | rw [ints_at0 (by omega)]
    | rw [ints_at' (by omega) (by omega)]
    | refine And.intro (lens_all rfl) ?_
    | refine And.intro (show _ ≤ _ ∧ (_ + 1) * _ ≤ _ ∧ _ + 1 ≤ _ by first | omega | (simp; omega)) ?_
    | refine And.intro (show 1 * _ ≤ _ ∧ 1 ≤ _ by omega) ?_
    | refine And.intro (by first | omega | (simp; omega) | (show _ ∧ _; simp; done)) ?_
    | fail) <;> conv => whnf)
  refine Lp.intro (α := Nat × Nat) (fun b => Rnd a S X b.1 b.2 ∧ b.2 ≤ a.edges.length) (fun b => a.edges.length - b.2) (fun b => [(0, .rptr (autoRow a) 0), (1, .int .i64 X), (5, .int .i64 b.1), (12, .val (edgeRows a.edges)), (13, .int .i64 a.edges.length), (14, .int .i64 b.2)]) (fun _ => []) ?_ ?_
  · refine ⟨(X, 0), ⟨rnd_start hX hrch, Nat.zero_le _⟩, [], rfl, rfl, trivial, ?_⟩
    exact ⟨.inl rfl, .inl rfl, .inl rfl, .inl rfl, .inl (congrArg (fun x : Nat => AV.int .i64 x) hle), .inl rfl, trivial⟩
  rintro ⟨Y, i⟩ ⟨hY, hi⟩
  dsimp only at hY hi ⊢
  have hYl := hY.lt
  refine vc2_sound hR _ _ _ _ _ ?_
  by_cases hlt : i < a.edges.length
  · have he := edge_in ha hlt
    unfold EdgeIn at he
    conv => whnf
    repeat' ((first
      | contradiction
      | (refine And.intro (fun hb => ?_) (fun hb => ?_) <;> first | contradiction | ((try simp only [SB, reduceCtorEq] at hb); try (exfalso; first | contradiction | omega)))
      | refine And.intro rfl ?_
      | refine ⟨_, IntWalk.i64_in _ (by omega), ?_⟩
      | rw [ints_at (by omega)]
      | rw [ints_at0 (by omega)]
      | rw [ints_at' (by omega) (by omega)]
      | refine And.intro (lens_all rfl) ?_
      | refine And.intro (show _ ≤ _ ∧ (_ + 1) * _ ≤ _ ∧ _ + 1 ≤ _ by first | omega | (simp; omega)) ?_
      | refine And.intro (show 1 * _ ≤ _ ∧ 1 ≤ _ by omega) ?_
      | refine And.intro (by first | omega | (simp; omega) | (show _ ∧ _; simp; done)) ?_
      | rw [edge_at (by omega)]
      | refine ⟨_, _, RHas_mk hYl (by omega) (by omega), ?_⟩
      | refine ⟨_, _, RBit_mk (by omega) (by omega), ?_⟩
      | fail) <;> conv => whnf)
    · refine ⟨(Y ||| 2 ^ (a.edges.getD i default).dst.toNat, i + 1), ⟨hY.yes ha hlt hb, hlt⟩, by dsimp only; omega, [], rfl, rfl, trivial, ?_⟩
      exact ⟨.inl rfl, .inl rfl, .inl (congrArg (AV.int .i64) (or_bit hYl (by omega) (by omega))), .inl rfl, .inl rfl, .inl rfl, trivial⟩
    · refine ⟨(Y, i + 1), ⟨hY.no (fun _ => hb), hlt⟩, by dsimp only; omega, [], rfl, rfl, trivial, ?_⟩
      repeat' (first
        | exact trivial
        | refine ⟨?_, ?_⟩
        | fail)
      all_goals first
        | with_reducible rfl
        | (conv => whnf
           try left
           conv => lhs; whnf
           first
             | rfl
             | exact congrArg (AV.int .i64) (by omega)
             | skip)
  · conv => whnf
    repeat' ((first
      | contradiction
      | (refine And.intro (fun hb => ?_) (fun hb => ?_) <;> first | contradiction | ((try simp only [SB, reduceCtorEq] at hb); try (exfalso; first | contradiction | omega)))
      | refine And.intro rfl ?_
      | refine ⟨_, IntWalk.i64_in _ (by omega), ?_⟩
      | rw [ints_at (by omega)]
      | rw [ints_at0 (by omega)]
      | rw [ints_at' (by omega) (by omega)]
      | refine And.intro (lens_all rfl) ?_
      | refine And.intro (show _ ≤ _ ∧ (_ + 1) * _ ≤ _ ∧ _ + 1 ≤ _ by first | omega | (simp; omega)) ?_
      | refine And.intro (show 1 * _ ≤ _ ∧ 1 ≤ _ by omega) ?_
      | refine And.intro (by first | omega | (simp; omega) | (show _ ∧ _; simp; done)) ?_
      | fail) <;> conv => whnf)
    · obtain rfl : Y = X := by omega
      refine ⟨.inl rfl, ?_⟩
      conv => whnf
      refine ⟨[], ⟨rfl, trivial⟩, ?_, rfl, rfl⟩
      conv => whnf
      left
      conv => lhs; whnf
      exact congrArg (fun x : Nat => AV.int .i64 x) (reach_eq hX hsub hrch (hY.closed (by omega)))
    · have h1 := sub_le hY.sub
      refine ⟨Y, ⟨hYl, fun p hp => hY.sub p (hsub p hp), hY.rch⟩, by omega, [], rfl, rfl, trivial, ?_⟩
      repeat' (first
        | exact trivial
        | refine ⟨?_, ?_⟩
        | fail)
      all_goals first
        | with_reducible rfl
        | (conv => whnf
           try left
           conv => lhs; whnf
           first
             | rfl
             | exact congrArg (AV.int .i64) (by omega)
             | skip)

def RReachS (xs : List AV) (r : AV) (objs : List AObj) : Prop := ∃ (a : AutoD) (X : Nat), xs = [.agg (autoRow a), .int .i64 ((X : Nat) : Int)] ∧ AutoOk a ∧ X < 2 ^ a.states.toNat ∧ r = .int .i64 ((autoR a X : Nat) : Int) ∧ objs = []
theorem RReachS_eq {xs : List AV} {a : AutoD} {X : Nat} (hx : xs = [.agg (autoRow a), .int .i64 ((X : Nat) : Int)]) (h : AutoOk a) (h1 : X < 2 ^ a.states.toNat) : RReachS xs (.int .i64 ((autoR a X : Nat) : Int)) [] := ⟨a, X, hx, h, h1, rfl, rfl⟩

theorem pow_le31 {n : Nat} (h : n ≤ 31) : 2 ^ n ≤ 2 ^ 31 := Nat.pow_le_pow_right (by decide) h
theorem rch_lt {a : AutoD} (ha : AutoOk a) {S p : Nat} (hS : S < 2 ^ a.states.toNat) (h : Rch (EA a) (BitP S) p) : p < a.states.toNat := by
  cases h with
  | base h => exact bit_lt hS h
  | step _ he => exact (ea_lt ha he).2

set_option maxHeartbeats 4000000 in
theorem s_spec_l4Reach : PureSound Try.prog 109 RReachS := by
  have hR : Rely Try.prog (ctxOf [(110, .pure RHas), (112, .pure RBit)]) := rely_cons b_spec_l1Has.has s_spec_l1Has (rely_cons b_spec_l1Bit.has s_spec_l1Bit (rely_nil mixed))
  refine pure_of_aw b_spec_l4Reach ?_
  rintro xs r objs ⟨a, S, rfl, ha, hS, rfl, rfl⟩ -
  have hs := ha.1.2.1
  have hle := length_edgeRows a.edges
  have hl := ha.2.1
  have hS31 : S < 2 ^ 31 := Nat.lt_of_lt_of_le hS (pow_le31 (by omega))
  refine ⟨by simp, vc2_sound hR _ _ _ _ _ ?_⟩
  conv => whnf
  repeat' ((first
    | contradiction
    | (refine And.intro (fun hb => ?_) (fun hb => ?_) <;> first | contradiction | ((try simp only [SB, reduceCtorEq] at hb); try (exfalso; first | contradiction | omega)))
    | refine And.intro rfl ?_
    | refine ⟨_, IntWalk.i64_in _ (by omega), ?_⟩
    | rw [ints_at (by omega)]
    | rw [ints_at0 (by omega)]
    | rw [ints_at' (by omega) (by omega)]
    | refine And.intro (lens_all rfl) ?_
    | refine And.intro (show _ ≤ _ ∧ (_ + 1) * _ ≤ _ ∧ _ + 1 ≤ _ by first | omega | (simp; omega)) ?_
    | refine And.intro (show 1 * _ ≤ _ ∧ 1 ≤ _ by omega) ?_
    | refine And.intro (by first | omega | (simp; omega) | (show _ ∧ _; simp; done)) ?_
    | fail) <;> conv => whnf)
  refine Lp.intro (α := Nat × Nat) (fun b => (b.1 < 2 ^ 31 ∧ SubB S b.1 ∧ ∀ p, BitP b.1 p → Rch (EA a) (BitP S) p) ∧ b.2 ≤ a.states.toNat + 1 ∧ ((∀ p q, BitP b.1 p → EA a p q → BitP b.1 q) ∨ b.2 ≤ card b.1 a.states.toNat)) (fun b => a.states.toNat + 1 - b.2)
    (fun b => [(1, .int .i64 b.1), (2, .ptr 0 0 0), (5, .int .i64 b.2)]) (fun _ => [some (.box (autoRow a))]) ?_ ?_
  · refine ⟨(S, 0), ⟨⟨hS31, fun _ h => h, fun p h => .base h⟩, Nat.zero_le _, .inr (Nat.zero_le _)⟩, [some 0], rfl, rfl, And.intro (And.intro (.inl rfl) (And.intro (.inl rfl) (And.intro (.inl rfl) (And.intro (.inl rfl) trivial)))) trivial, ?_⟩
    exact ⟨.inl rfl, rfl, .inl rfl, trivial⟩
  rintro ⟨X, k⟩ ⟨⟨hX, hsub, hrch⟩, hk, hcl⟩
  dsimp only at hX hsub hrch hk hcl ⊢
  refine vc2_sound hR _ _ _ _ _ ?_
  by_cases hkl : k ≤ a.states.toNat
  · conv => whnf
    repeat' ((first
      | contradiction
      | (refine And.intro (fun hb => ?_) (fun hb => ?_) <;> first | contradiction | ((try simp only [SB, reduceCtorEq] at hb); try (exfalso; first | contradiction | omega)))
      | refine And.intro rfl ?_
      | refine ⟨_, IntWalk.i64_in _ (by omega), ?_⟩
      | rw [ints_at (by omega)]
      | rw [ints_at0 (by omega)]
      | rw [ints_at' (by omega) (by omega)]
      | refine And.intro (lens_all rfl) ?_
      | refine And.intro (show _ ≤ _ ∧ (_ + 1) * _ ≤ _ ∧ _ + 1 ≤ _ by first | omega | (simp; omega)) ?_
      | refine And.intro (show 1 * _ ≤ _ ∧ 1 ≤ _ by omega) ?_
      | refine And.intro (by first | omega | (simp; omega) | (show _ ∧ _; simp; done)) ?_
      | fail) <;> conv => whnf)
    refine Lp.intro (α := Nat × Nat) (fun b => Rnd a S X b.1 b.2 ∧ b.2 ≤ a.edges.length) (fun b => a.edges.length - b.2) (fun b => [(1, .int .i64 b.1), (2, .ptr 0 0 0), (5, .int .i64 k), (6, .int .i64 b.2)]) (fun _ => [some (.box (autoRow a))]) ?_ ?_
    · refine ⟨(X, 0), ⟨rnd_start hX hrch, Nat.zero_le _⟩, [some 0], rfl, rfl, And.intro (And.intro (.inl rfl) (And.intro (.inl rfl) (And.intro (.inl rfl) (And.intro (.inl rfl) trivial)))) trivial, ?_⟩
      exact ⟨.inl rfl, rfl, .inl rfl, .inl rfl, trivial⟩
    rintro ⟨Y, i⟩ ⟨hY, hi⟩
    dsimp only at hY hi ⊢
    have hYl := hY.lt
    refine vc2_sound hR _ _ _ _ _ ?_
    by_cases hlt : i < a.edges.length
    · have he := edge_in ha hlt
      unfold EdgeIn at he
      conv => whnf
      repeat' ((first
        | contradiction
        | (refine And.intro (fun hb => ?_) (fun hb => ?_) <;> first | contradiction | ((try simp only [SB, reduceCtorEq] at hb); try (exfalso; first | contradiction | omega)))
        | refine And.intro rfl ?_
        | refine ⟨_, IntWalk.i64_in _ (by omega), ?_⟩
        | rw [ints_at (by omega)]
        | rw [ints_at0 (by omega)]
        | rw [ints_at' (by omega) (by omega)]
        | refine And.intro (lens_all rfl) ?_
        | refine And.intro (show _ ≤ _ ∧ (_ + 1) * _ ≤ _ ∧ _ + 1 ≤ _ by first | omega | (simp; omega)) ?_
        | refine And.intro (show 1 * _ ≤ _ ∧ 1 ≤ _ by omega) ?_
        | refine And.intro (by first | omega | (simp; omega) | (show _ ∧ _; simp; done)) ?_
        | rw [edge_at (by omega)]
        | refine ⟨_, _, RHas_mk hYl (by omega) (by omega), ?_⟩
        | refine ⟨_, _, RBit_mk (by omega) (by omega), ?_⟩
        | fail) <;> conv => whnf)
      · refine ⟨(Y ||| 2 ^ (a.edges.getD i default).dst.toNat, i + 1), ⟨hY.yes ha hlt hb, hlt⟩, by dsimp only; omega, [some 0], rfl, rfl, And.intro (And.intro (.inl rfl) (And.intro (.inl rfl) (And.intro (.inl rfl) (And.intro (.inl rfl) trivial)))) trivial, ?_⟩
        exact ⟨.inl (congrArg (AV.int .i64) (or_bit hYl (by omega) (by omega))), rfl, .inl rfl, .inl rfl, trivial⟩
      · refine ⟨(Y, i + 1), ⟨hY.no (fun _ => hb), hlt⟩, by dsimp only; omega, [some 0], rfl, rfl, And.intro (And.intro (.inl rfl) (And.intro (.inl rfl) (And.intro (.inl rfl) (And.intro (.inl rfl) trivial)))) trivial, ?_⟩
        exact ⟨.inl rfl, rfl, .inl rfl, .inl rfl, trivial⟩
    · conv => whnf
      repeat' ((first
        | contradiction
        | (refine And.intro (fun hb => ?_) (fun hb => ?_) <;> first | contradiction | ((try simp only [SB, reduceCtorEq] at hb); try (exfalso; first | contradiction | omega)))
        | refine And.intro rfl ?_
        | refine ⟨_, IntWalk.i64_in _ (by omega), ?_⟩
        | rw [ints_at (by omega)]
        | rw [ints_at0 (by omega)]
        | rw [ints_at' (by omega) (by omega)]
        | refine And.intro (lens_all rfl) ?_
        | refine And.intro (show _ ≤ _ ∧ (_ + 1) * _ ≤ _ ∧ _ + 1 ≤ _ by first | omega | (simp; omega)) ?_
        | refine And.intro (show 1 * _ ≤ _ ∧ 1 ≤ _ by omega) ?_
        | refine And.intro (by first | omega | (simp; omega) | (show _ ∧ _; simp; done)) ?_
        | fail) <;> conv => whnf)
      refine ⟨(Y, k + 1), ⟨⟨hYl, fun p hp => hY.sub p (hsub p hp), hY.rch⟩, by dsimp only; omega, ?_⟩, by dsimp only; omega, [some 0], rfl, rfl, And.intro (And.intro (.inl rfl) (And.intro (.inl rfl) (And.intro (.inl rfl) (And.intro (.inl rfl) trivial)))) trivial, ?_⟩
      · dsimp only
        by_cases hYX : Y = X
        · subst hYX; exact .inl (hY.closed (by omega))
        · right
          rcases hcl with hcl | hcl
          · exact absurd (hY.cls hcl) hYX
          · have hex : ∃ p, BitP Y p ∧ ¬ BitP X p := by
              refine Classical.byContradiction fun hn => hYX ?_
              refine bits_ext fun p => ⟨fun h => Classical.byContradiction fun h2 => hn ⟨p, h, h2⟩, hY.sub p⟩
            obtain ⟨p, h1, h2⟩ := hex
            have := card_lt hY.sub h1 h2 a.states.toNat (rch_lt ha hS (hY.rch p h1))
            omega
      · exact ⟨.inl rfl, rfl, .inl rfl, trivial⟩
  · conv => whnf
    repeat' ((first
      | contradiction
      | (refine And.intro (fun hb => ?_) (fun hb => ?_) <;> first | contradiction | ((try simp only [SB, reduceCtorEq] at hb); try (exfalso; first | contradiction | omega)))
      | refine And.intro rfl ?_
      | refine ⟨_, IntWalk.i64_in _ (by omega), ?_⟩
      | rw [ints_at (by omega)]
      | rw [ints_at0 (by omega)]
      | rw [ints_at' (by omega) (by omega)]
      | refine And.intro (lens_all rfl) ?_
      | refine And.intro (show _ ≤ _ ∧ (_ + 1) * _ ≤ _ ∧ _ + 1 ≤ _ by first | omega | (simp; omega)) ?_
      | refine And.intro (show 1 * _ ≤ _ ∧ 1 ≤ _ by omega) ?_
      | refine And.intro (by first | omega | (simp; omega) | (show _ ∧ _; simp; done)) ?_
      | fail) <;> conv => whnf)
    have hc := card_le X a.states.toNat
    refine ⟨.inl rfl, ?_⟩
    conv => whnf
    refine ⟨[], ⟨rfl, trivial⟩, ?_, rfl, rfl⟩
    conv => whnf
    left
    conv => lhs; whnf
    exact congrArg (fun x : Nat => AV.int .i64 x) (reach_eq hX hsub hrch (hcl.resolve_right (by omega)))

end Go.Proofs.Ytpfbkblgefddlaa.Ct
