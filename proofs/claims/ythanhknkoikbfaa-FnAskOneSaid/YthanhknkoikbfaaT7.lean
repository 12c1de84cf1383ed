/- Part 7 of the proof of FnAskOneSaid: CtReach to CtAWord. Conditions: none. -/
import Derived.Test.YthanhknkoikbfaaT5
import Derived.Test.YthanhknkoikbfaaT6
import Derived.Test.YthanhknkoikbfaaT1
import Derived.Test.YthanhknkoikbfaaT4
namespace Go.Proofs.Ythanhknkoikbfaa.Ct
set_option linter.unusedSimpArgs false
set_option linter.unusedVariables false
open Go Go.Proofs Go.Proofs.Ythanhknkoikbfaa.Av Go.Proofs.Ythanhknkoikbfaa.Pl
def c_impl_Auto_reach : ICode := (.seq (.reg [Ol 4 .mv [ci 0]]) (.block 0 (.loop (.block 1 (.seq (.reg [O1 8 .mv 1, O1 5 .mv 8]) (.seq (.seq (.reg [O1 9 .mv 0, O1 10 .nck 9, O1 11 (.fadr 3) 10, O1 12 .ld1 11, O1 13 .len 12, Ol 14 .mv [ci 0]]) (.block 2 (.loop (.seq (.reg [O2 15 (.bin .lss) 14 13]) (.seq (.cond (.t 15) .skip (.exit 2)) (.seq (.block 3 (.seq (.reg [O2 16 (.iadr 4) 12 14, O1 17 (.ldn 4) 16, O0 7 (.alc [(.int .i64 0), (.int .i64 0), (.int .i64 0), (.bool false)]), S2 (.st 4) 7 17]) (.seq (.reg [O1 18 .mv 5, O1 19 (.fadr 0) 7, O1 20 .ld1 19, O2 21 (.call 125) 18 20]) (.cond (.t 21) (.reg [O1 22 .mv 5, O1 23 (.fadr 2) 7, O1 24 .ld1 23, O1 25 (.call 141) 24, O2 26 (.bin .or) 22 25, O1 5 .mv 26]) .skip)))) (.reg [Ol 27 (.bin .add) [.t 14, ci 1], O1 14 .mv 27]))))))) (.seq (.seq (.reg [O1 28 .mv 5, O1 29 .mv 1, O2 30 (.bin .eql) 28 29]) (.cond (.t 30) (.seq (.reg [O1 31 .mv 1, O1 4 .mv 31]) .ret) .skip)) (.reg [O1 32 .mv 5, O1 1 .mv 32]))))))))
theorem b_impl_Auto_reach : Body Try.prog 112 33 c_impl_Auto_reach [(.t 4)] := body_mk Try.func112 (by kernel_rfl) (by decide)
def c_spec_l4Reach : ICode := (.seq (.reg [O1 2 (.box 4) 0, Ol 4 .mv [ci 0]]) (.seq (.seq (.reg [Ol 5 .mv [ci 0]]) (.block 0 (.loop (.seq (.seq (.reg [O1 7 .mv 5, O1 8 (.fadr 1) 2, O1 9 .ld1 8, O2 10 (.bin .leq) 7 9]) (.cond (.t 10) .skip (.exit 0))) (.seq (.block 1 (.seq (.reg [Ol 6 .mv [ci 0]]) (.block 2 (.loop (.seq (.seq (.reg [O1 13 .mv 6, O1 14 (.fadr 3) 2, O1 15 .ld1 14, O1 16 .len 15, O2 17 (.bin .lss) 13 16]) (.cond (.t 17) .skip (.exit 2))) (.seq (.block 3 (.seq (.reg [O1 20 .mv 1, O1 21 (.fadr 3) 2, O1 22 .ld1 21, O1 23 .mv 6, O2 24 (.iadr 4) 22 23, O1 25 (.fadr 0) 24, O1 26 .ld1 25, O2 27 (.call 73) 20 26]) (.cond (.t 27) (.reg [O1 28 .mv 1, O1 29 (.fadr 3) 2, O1 30 .ld1 29, O1 31 .mv 6, O2 32 (.iadr 4) 30 31, O1 33 (.fadr 2) 32, O1 34 .ld1 33, O1 35 (.call 123) 34, O2 36 (.bin .or) 28 35, O1 1 .mv 36]) .skip))) (.reg [O1 18 .mv 6, Ol 19 (.bin .add) [.t 18, ci 1], O1 6 .mv 19]))))))) (.reg [O1 11 .mv 5, Ol 12 (.bin .add) [.t 11, ci 1], O1 5 .mv 12])))))) (.seq (.reg [O1 37 .mv 1, O1 4 .mv 37]) .ret)))
theorem b_spec_l4Reach : Body Try.prog 142 38 c_spec_l4Reach [(.t 4)] := body_mk Try.func142 (by kernel_rfl) (by decide)
def EA (a : AutoD) (p q : Nat) : Prop := ∃ e ∈ a.edges, e.src.toNat = p ∧ e.dst.toNat = q
theorem mem_at {a : AutoD} {e : EdgeD} (he : e ∈ a.edges) : ∃ i, i < a.edges.length ∧ a.edges.getD i default = e := by
  obtain ⟨i, hi, rfl⟩ := List.getElem_of_mem he
  exact ⟨i, hi, by rw [List.getD_eq_getElem?_getD, List.getElem?_eq_getElem hi]; rfl⟩
theorem ea_lt {a : AutoD} (h : AutoOk a) {p q : Nat} (ha : EA a p q) : p < a.states.toNat ∧ q < a.states.toNat := by
  obtain ⟨e, he, rfl, rfl⟩ := ha
  obtain ⟨i, hi, rfl⟩ := mem_at he
  have := edge_in h hi
  unfold EdgeIn at this
  omega
theorem adj_auto {a : AutoD} (h : AutoOk a) {p q : Nat} : Adj (autoG a) p q ↔ EA a p q := by
  unfold autoG
  rw [adj_mkG]
  constructor
  · rintro ⟨_, m, hm⟩
    obtain ⟨e, he, h2⟩ := List.mem_map.1 hm
    cases h2
    exact ⟨e, he, rfl, rfl⟩
  · intro ha
    refine ⟨(ea_lt h ha).1, ?_⟩
    obtain ⟨e, he, rfl, rfl⟩ := ha
    exact ⟨_, List.mem_map.2 ⟨e, he, rfl⟩⟩
theorem gok_auto {a : AutoD} (h : AutoOk a) : GOk (autoG a) := gok_mkG fun e he => by
  obtain ⟨x, hx, rfl⟩ := List.mem_map.1 he
  exact (ea_lt h ⟨x, hx, rfl, rfl⟩).2
noncomputable def autoR (a : AutoD) (X : Nat) : Nat := reachN (EA a) X 31
abbrev BitP (X : Nat) : Nat → Prop := fun i => X.testBit i = true
abbrev SubB (X Y : Nat) : Prop := ∀ p, BitP X p → BitP Y p
structure Rnd (a : AutoD) (S X Y i : Nat) : Prop where
  lt : Y < 2 ^ 31
  sub : SubB X Y
  rch : ∀ p, BitP Y p → Rch (EA a) (BitP S) p
  got : ∀ j, j < i → j < a.edges.length → BitP X (a.edges.getD j default).src.toNat → BitP Y (a.edges.getD j default).dst.toNat
  cls : (∀ p q, BitP X p → EA a p q → BitP X q) → Y = X
theorem Rnd.no {a : AutoD} {S X Y i : Nat} (h : Rnd a S X Y i) (hb : i < a.edges.length → Y.testBit (a.edges.getD i default).src.toNat = false) : Rnd a S X Y (i + 1) := by
  refine ⟨h.lt, h.sub, h.rch, fun j hj hjl hx => ?_, h.cls⟩
  by_cases hji : j = i
  · subst hji
    have := h.sub _ hx
    rw [show BitP Y (a.edges.getD j default).src.toNat ↔ Y.testBit (a.edges.getD j default).src.toNat = true from Iff.rfl, hb hjl] at this
    cases this
  · exact h.got j (by omega) hjl hx
theorem Rnd.yes {a : AutoD} (ha : AutoOk a) {S X Y i : Nat} (h : Rnd a S X Y i) (hi : i < a.edges.length) (hb : Y.testBit (a.edges.getD i default).src.toNat = true) : Rnd a S X (Y ||| 2 ^ (a.edges.getD i default).dst.toNat) (i + 1) := by
  have he : EA a (a.edges.getD i default).src.toNat (a.edges.getD i default).dst.toNat := ⟨_, getD_mem' hi, rfl, rfl⟩
  have hlt := ea_lt ha he
  have hs := ha.1.2.1
  refine ⟨ins_lt h.lt (by omega), fun p hp => testBit_ins.2 (.inl (h.sub p hp)), fun p hp => ?_, fun j hj hjl hx => ?_, fun hc => ?_⟩
  · rcases testBit_ins.1 hp with h1 | rfl
    · exact h.rch p h1
    · exact .step (h.rch _ hb) he
  · refine testBit_ins.2 ?_
    by_cases hji : j = i
    · subst hji; exact .inr rfl
    · exact .inl (h.got j (by omega) hjl hx)
  · have e := h.cls hc
    subst e
    refine bits_ext fun p => ⟨fun hp => ?_, fun hp => testBit_ins.2 (.inl hp)⟩
    rcases testBit_ins.1 hp with h1 | rfl
    · exact h1
    · exact hc _ _ hb he
theorem rnd_start {a : AutoD} {S X : Nat} (hX : X < 2 ^ 31) (hr : ∀ p, BitP X p → Rch (EA a) (BitP S) p) : Rnd a S X X 0 := ⟨hX, fun _ h => h, hr, fun j hj => by omega, fun _ => rfl⟩
theorem Rnd.closed {a : AutoD} {S X i : Nat} (h : Rnd a S X X i) (hi : a.edges.length ≤ i) : ∀ p q, BitP X p → EA a p q → BitP X q := by
  rintro p q hp ⟨e, he, rfl, rfl⟩
  obtain ⟨j, hj, rfl⟩ := mem_at he
  exact h.got j (by omega) hj hp
theorem reach_eq {a : AutoD} {S X : Nat} (hX : X < 2 ^ 31) (hs : SubB S X) (hr : ∀ p, BitP X p → Rch (EA a) (BitP S) p) (hc : ∀ p q, BitP X p → EA a p q → BitP X q) : X = autoR a S :=
  reachN_of hX hs hr hc
def RReach (xs : List AV) (r : AV) (objs : List AObj) : Prop := ∃ (a : AutoD) (X : Nat), xs = [.rptr (autoRow a) 0, .int .i64 ((X : Nat) : Int)] ∧ AutoOk a ∧ X < 2 ^ 31 ∧ r = .int .i64 ((autoR a X : Nat) : Int) ∧ objs = []
theorem RReach_eq {xs : List AV} {a : AutoD} {X : Nat} (hx : xs = [.rptr (autoRow a) 0, .int .i64 ((X : Nat) : Int)]) (h : AutoOk a) (h1 : X < 2 ^ 31) : RReach xs (.int .i64 ((autoR a X : Nat) : Int)) [] := ⟨a, X, hx, h, h1, rfl, rfl⟩
set_option maxHeartbeats 4000000 in
theorem s_impl_reach : PureSound Try.prog 112 RReach := by
  have hR : Rely Try.prog (ctxOf [(125, .pure RHas), (141, .pure RBit)]) := rely_cons b_impl_has.has s_impl_has (rely_cons b_impl_only.has s_impl_onlyB (rely_nil mixed))
  refine pure_of_aw b_impl_Auto_reach ?_
  rintro xs r objs ⟨a, S, rfl, ha, hS, rfl, rfl⟩ -
  have hs := ha.1.2.1
  have hle := length_edgeRows a.edges
  have hl := ha.2.1
  refine ⟨by simp, vc2_sound hR _ _ _ _ _ ?_⟩
  conv => whnf
  repeat' ((first | contradiction | (refine And.intro (fun hb => ?_) (fun hb => ?_) <;> first | contradiction | ((try simp only [SB, reduceCtorEq] at hb); try (exfalso; first | contradiction | omega))) | refine G2 ?_ | rw [ints_at (by omega)] | rw [ints_at0 (by omega)] | rw [ints_at' (by omega) (by omega)] | refine G1 ?_ | fail) <;> conv => whnf)
  refine Lp.intro (α := Nat) (fun X => X < 2 ^ 31 ∧ SubB S X ∧ ∀ p, BitP X p → Rch (EA a) (BitP S) p) (fun X => 2 ^ 31 - X) (fun X => [(0, .rptr (autoRow a) 0), (1, .int .i64 X)]) (fun _ => []) ?_ ?_
  · refine ⟨S, ⟨hS, fun _ h => h, fun p h => .base h⟩, [], rfl, rfl, trivial, ?_⟩
    exact ⟨.inl rfl, .inl rfl, trivial⟩
  rintro X ⟨hX, hsub, hrch⟩
  refine vc2_sound hR _ _ _ _ _ ?_
  conv => whnf
  repeat' ((first | contradiction | (refine And.intro (fun hb => ?_) (fun hb => ?_) <;> first | contradiction | ((try simp only [SB, reduceCtorEq] at hb); try (exfalso; first | contradiction | omega))) | refine G2 ?_ | rw [ints_at (by omega)] | rw [ints_at0 (by omega)] | rw [ints_at' (by omega) (by omega)] | refine G1 ?_ | fail) <;> conv => whnf)
  refine Lp.intro (α := Nat × Nat) (fun b => Rnd a S X b.1 b.2 ∧ b.2 ≤ a.edges.length) (fun b => a.edges.length - b.2) (fun b => [(0, .rptr (autoRow a) 0), (1, .int .i64 X), (5, .int .i64 b.1), (12, .val (edgeRows a.edges)), (13, .int .i64 a.edges.length), (14, .int .i64 b.2)]) (fun _ => []) ?_ ?_
  · refine ⟨(X, 0), ⟨rnd_start hX hrch, Nat.zero_le _⟩, [], rfl, rfl, trivial, ?_⟩
    exact ⟨.inl rfl, .inl rfl, .inl rfl, .inl rfl, .inl (congrArg (fun x : Nat => AV.int .i64 x) hle), .inl rfl, trivial⟩
  rintro ⟨Y, i⟩ ⟨hY, hi⟩
  dsimp only at hY hi ⊢
  have hYl := hY.lt
  refine vc2_sound hR _ _ _ _ _ ?_
  by_cases hlt : i < a.edges.length
  · have he := edge_in ha hlt
    unfold EdgeIn at he
    conv => whnf
    repeat' ((first | contradiction | (refine And.intro (fun hb => ?_) (fun hb => ?_) <;> first | contradiction | ((try simp only [SB, reduceCtorEq] at hb); try (exfalso; first | contradiction | omega))) | refine G2 ?_ | rw [ints_at (by omega)] | rw [ints_at0 (by omega)] | rw [ints_at' (by omega) (by omega)] | refine G1 ?_ | rw [edge_at (by omega)] | refine ⟨_, _, RHas_mk hYl (by omega) (by omega), ?_⟩ | refine ⟨_, _, RBit_mk (by omega) (by omega), ?_⟩ | fail) <;> conv => whnf)
    · refine ⟨(Y ||| 2 ^ (a.edges.getD i default).dst.toNat, i + 1), ⟨hY.yes ha hlt hb, hlt⟩, by dsimp only; omega, [], rfl, rfl, trivial, ?_⟩
      exact ⟨.inl rfl, .inl rfl, .inl (congrArg (AV.int .i64) (or_bit hYl (by omega) (by omega))), .inl rfl, .inl rfl, .inl rfl, trivial⟩
    · refine ⟨(Y, i + 1), ⟨hY.no (fun _ => hb), hlt⟩, by dsimp only; omega, [], rfl, rfl, trivial, ?_⟩
      repeat' (first
        | exact trivial
        | refine ⟨?_, ?_⟩
        | fail)
      all_goals first
        | with_reducible rfl
        | (conv => whnf
           try left
           conv => lhs; whnf
           first
             | rfl
             | exact congrArg (AV.int .i64) (by omega)
             | skip)
  · conv => whnf
    repeat' ((first | contradiction | (refine And.intro (fun hb => ?_) (fun hb => ?_) <;> first | contradiction | ((try simp only [SB, reduceCtorEq] at hb); try (exfalso; first | contradiction | omega))) | refine G2 ?_ | rw [ints_at (by omega)] | rw [ints_at0 (by omega)] | rw [ints_at' (by omega) (by omega)] | refine G1 ?_ | fail) <;> conv => whnf)
    · obtain rfl : Y = X := by omega
      refine ⟨.inl rfl, ?_⟩
      conv => whnf
      refine ⟨[], ⟨rfl, trivial⟩, ?_, rfl, rfl⟩
      conv => whnf
      left
      conv => lhs; whnf
      exact congrArg (fun x : Nat => AV.int .i64 x) (reach_eq hX hsub hrch (hY.closed (by omega)))
    · have h1 := sub_le hY.sub
      refine ⟨Y, ⟨hYl, fun p hp => hY.sub p (hsub p hp), hY.rch⟩, by omega, [], rfl, rfl, trivial, ?_⟩
      repeat' (first
        | exact trivial
        | refine ⟨?_, ?_⟩
        | fail)
      all_goals first
        | with_reducible rfl
        | (conv => whnf
           try left
           conv => lhs; whnf
           first
             | rfl
             | exact congrArg (AV.int .i64) (by omega)
             | skip)
def RReachS (xs : List AV) (r : AV) (objs : List AObj) : Prop := ∃ (a : AutoD) (X : Nat), xs = [.agg (autoRow a), .int .i64 ((X : Nat) : Int)] ∧ AutoOk a ∧ X < 2 ^ a.states.toNat ∧ r = .int .i64 ((autoR a X : Nat) : Int) ∧ objs = []
theorem RReachS_eq {xs : List AV} {a : AutoD} {X : Nat} (hx : xs = [.agg (autoRow a), .int .i64 ((X : Nat) : Int)]) (h : AutoOk a) (h1 : X < 2 ^ a.states.toNat) : RReachS xs (.int .i64 ((autoR a X : Nat) : Int)) [] := ⟨a, X, hx, h, h1, rfl, rfl⟩
theorem pow_le31 {n : Nat} (h : n ≤ 31) : 2 ^ n ≤ 2 ^ 31 := Nat.pow_le_pow_right (by decide) h
theorem rch_lt {a : AutoD} (ha : AutoOk a) {S p : Nat} (hS : S < 2 ^ a.states.toNat) (h : Rch (EA a) (BitP S) p) : p < a.states.toNat := by
  cases h with
  | base h => exact bit_lt hS h
  | step _ he => exact (ea_lt ha he).2
set_option maxHeartbeats 4000000 in
theorem s_spec_l4Reach : PureSound Try.prog 142 RReachS := by
  have hR : Rely Try.prog (ctxOf [(73, .pure RHas), (123, .pure RBit)]) := rely_cons b_spec_l1Has.has s_spec_l1Has (rely_cons b_spec_l1Bit.has s_spec_l1Bit (rely_nil mixed))
  refine pure_of_aw b_spec_l4Reach ?_
  rintro xs r objs ⟨a, S, rfl, ha, hS, rfl, rfl⟩ -
  have hs := ha.1.2.1
  have hle := length_edgeRows a.edges
  have hl := ha.2.1
  have hS31 : S < 2 ^ 31 := Nat.lt_of_lt_of_le hS (pow_le31 (by omega))
  refine ⟨by simp, vc2_sound hR _ _ _ _ _ ?_⟩
  conv => whnf
  repeat' ((first | contradiction | (refine And.intro (fun hb => ?_) (fun hb => ?_) <;> first | contradiction | ((try simp only [SB, reduceCtorEq] at hb); try (exfalso; first | contradiction | omega))) | refine G2 ?_ | rw [ints_at (by omega)] | rw [ints_at0 (by omega)] | rw [ints_at' (by omega) (by omega)] | refine G1 ?_ | fail) <;> conv => whnf)
  refine Lp.intro (α := Nat × Nat) (fun b => (b.1 < 2 ^ 31 ∧ SubB S b.1 ∧ ∀ p, BitP b.1 p → Rch (EA a) (BitP S) p) ∧ b.2 ≤ a.states.toNat + 1 ∧ ((∀ p q, BitP b.1 p → EA a p q → BitP b.1 q) ∨ b.2 ≤ card b.1 a.states.toNat)) (fun b => a.states.toNat + 1 - b.2)
    (fun b => [(1, .int .i64 b.1), (2, .ptr 0 0 0), (5, .int .i64 b.2)]) (fun _ => [some (.box (autoRow a))]) ?_ ?_
  · refine ⟨(S, 0), ⟨⟨hS31, fun _ h => h, fun p h => .base h⟩, Nat.zero_le _, .inr (Nat.zero_le _)⟩, [some 0], rfl, rfl, And.intro (And.intro (.inl rfl) (And.intro (.inl rfl) (And.intro (.inl rfl) (And.intro (.inl rfl) trivial)))) trivial, ?_⟩
    exact ⟨.inl rfl, rfl, .inl rfl, trivial⟩
  rintro ⟨X, k⟩ ⟨⟨hX, hsub, hrch⟩, hk, hcl⟩
  dsimp only at hX hsub hrch hk hcl ⊢
  refine vc2_sound hR _ _ _ _ _ ?_
  by_cases hkl : k ≤ a.states.toNat
  · conv => whnf
    repeat' ((first | contradiction | (refine And.intro (fun hb => ?_) (fun hb => ?_) <;> first | contradiction | ((try simp only [SB, reduceCtorEq] at hb); try (exfalso; first | contradiction | omega))) | refine G2 ?_ | rw [ints_at (by omega)] | rw [ints_at0 (by omega)] | rw [ints_at' (by omega) (by omega)] | refine G1 ?_ | fail) <;> conv => whnf)
    refine Lp.intro (α := Nat × Nat) (fun b => Rnd a S X b.1 b.2 ∧ b.2 ≤ a.edges.length) (fun b => a.edges.length - b.2) (fun b => [(1, .int .i64 b.1), (2, .ptr 0 0 0), (5, .int .i64 k), (6, .int .i64 b.2)]) (fun _ => [some (.box (autoRow a))]) ?_ ?_
    · refine ⟨(X, 0), ⟨rnd_start hX hrch, Nat.zero_le _⟩, [some 0], rfl, rfl, And.intro (And.intro (.inl rfl) (And.intro (.inl rfl) (And.intro (.inl rfl) (And.intro (.inl rfl) trivial)))) trivial, ?_⟩
      exact ⟨.inl rfl, rfl, .inl rfl, .inl rfl, trivial⟩
    rintro ⟨Y, i⟩ ⟨hY, hi⟩
    dsimp only at hY hi ⊢
    have hYl := hY.lt
    refine vc2_sound hR _ _ _ _ _ ?_
    by_cases hlt : i < a.edges.length
    · have he := edge_in ha hlt
      unfold EdgeIn at he
      conv => whnf
      repeat' ((first | contradiction | (refine And.intro (fun hb => ?_) (fun hb => ?_) <;> first | contradiction | ((try simp only [SB, reduceCtorEq] at hb); try (exfalso; first | contradiction | omega))) | refine G2 ?_ | rw [ints_at (by omega)] | rw [ints_at0 (by omega)] | rw [ints_at' (by omega) (by omega)] | refine G1 ?_ | rw [edge_at (by omega)] | refine ⟨_, _, RHas_mk hYl (by omega) (by omega), ?_⟩ | refine ⟨_, _, RBit_mk (by omega) (by omega), ?_⟩ | fail) <;> conv => whnf)
      · refine ⟨(Y ||| 2 ^ (a.edges.getD i default).dst.toNat, i + 1), ⟨hY.yes ha hlt hb, hlt⟩, by dsimp only; omega, [some 0], rfl, rfl, And.intro (And.intro (.inl rfl) (And.intro (.inl rfl) (And.intro (.inl rfl) (And.intro (.inl rfl) trivial)))) trivial, ?_⟩
        exact ⟨.inl (congrArg (AV.int .i64) (or_bit hYl (by omega) (by omega))), rfl, .inl rfl, .inl rfl, trivial⟩
      · refine ⟨(Y, i + 1), ⟨hY.no (fun _ => hb), hlt⟩, by dsimp only; omega, [some 0], rfl, rfl, And.intro (And.intro (.inl rfl) (And.intro (.inl rfl) (And.intro (.inl rfl) (And.intro (.inl rfl) trivial)))) trivial, ?_⟩
        exact ⟨.inl rfl, rfl, .inl rfl, .inl rfl, trivial⟩
    · conv => whnf
      repeat' ((first | contradiction | (refine And.intro (fun hb => ?_) (fun hb => ?_) <;> first | contradiction | ((try simp only [SB, reduceCtorEq] at hb); try (exfalso; first | contradiction | omega))) | refine G2 ?_ | rw [ints_at (by omega)] | rw [ints_at0 (by omega)] | rw [ints_at' (by omega) (by omega)] | refine G1 ?_ | fail) <;> conv => whnf)
      refine ⟨(Y, k + 1), ⟨⟨hYl, fun p hp => hY.sub p (hsub p hp), hY.rch⟩, by dsimp only; omega, ?_⟩, by dsimp only; omega, [some 0], rfl, rfl, And.intro (And.intro (.inl rfl) (And.intro (.inl rfl) (And.intro (.inl rfl) (And.intro (.inl rfl) trivial)))) trivial, ?_⟩
      · dsimp only
        by_cases hYX : Y = X
        · subst hYX; exact .inl (hY.closed (by omega))
        · right
          rcases hcl with hcl | hcl
          · exact absurd (hY.cls hcl) hYX
          · have hex : ∃ p, BitP Y p ∧ ¬ BitP X p := by
              refine Classical.byContradiction fun hn => hYX ?_
              refine bits_ext fun p => ⟨fun h => Classical.byContradiction fun h2 => hn ⟨p, h, h2⟩, hY.sub p⟩
            obtain ⟨p, h1, h2⟩ := hex
            have := card_lt hY.sub h1 h2 a.states.toNat (rch_lt ha hS (hY.rch p h1))
            omega
      · exact ⟨.inl rfl, rfl, .inl rfl, trivial⟩
  · conv => whnf
    repeat' ((first | contradiction | (refine And.intro (fun hb => ?_) (fun hb => ?_) <;> first | contradiction | ((try simp only [SB, reduceCtorEq] at hb); try (exfalso; first | contradiction | omega))) | refine G2 ?_ | rw [ints_at (by omega)] | rw [ints_at0 (by omega)] | rw [ints_at' (by omega) (by omega)] | refine G1 ?_ | fail) <;> conv => whnf)
    have hc := card_le X a.states.toNat
    refine ⟨.inl rfl, ?_⟩
    conv => whnf
    refine ⟨[], ⟨rfl, trivial⟩, ?_, rfl, rfl⟩
    conv => whnf
    left
    conv => lhs; whnf
    exact congrArg (fun x : Nat => AV.int .i64 x) (reach_eq hX hsub hrch (hcl.resolve_right (by omega)))
end Go.Proofs.Ythanhknkoikbfaa.Ct
namespace Go.Proofs.Ythanhknkoikbfaa.Ct
set_option linter.unusedSimpArgs false
set_option linter.unusedVariables false
open Go Go.Proofs Go.Proofs.Ythanhknkoikbfaa.Av Go.Proofs.Ythanhknkoikbfaa.Pl
def c_impl_Auto_step : ICode := (.seq (.reg [Ol 6 .mv [ci 0]]) (.seq (.reg [Ol 7 .mv [ci 0]]) (.seq (.seq (.reg [O1 10 .mv 0, O1 11 .nck 10, O1 12 (.fadr 3) 11, O1 13 .ld1 12, O1 14 .len 13, Ol 15 .mv [ci 0]]) (.block 0 (.loop (.seq (.reg [O2 16 (.bin .lss) 15 14]) (.seq (.cond (.t 16) .skip (.exit 0)) (.seq (.block 1 (.seq (.reg [O2 17 (.iadr 4) 13 15, O1 18 (.ldn 4) 17, O0 9 (.alc [(.int .i64 0), (.int .i64 0), (.int .i64 0), (.bool false)]), S2 (.st 4) 9 18]) (.seq (.reg [O1 19 (.fadr 1) 9, O1 20 .ld1 19, O1 21 .mv 2, O2 22 (.bin .eql) 20 21, O1 23 .mv 22, Og 24 .mv [.t 1] 23 true, Og 25 (.fadr 0) [.t 9] 23 true, Og 26 .ld1 [.t 25] 23 true, Og 27 (.call 125) [.t 24, .t 26] 23 true, Ol 28 .pick [.t 23, .t 27, cb false]]) (.cond (.t 28) (.reg [O1 29 .mv 7, O1 30 (.fadr 2) 9, O1 31 .ld1 30, O1 32 (.call 141) 31, O2 33 (.bin .or) 29 32, O1 7 .mv 33]) .skip)))) (.reg [Ol 34 (.bin .add) [.t 15, ci 1], O1 15 .mv 34]))))))) (.seq (.reg [O1 35 .mv 7, O1 6 .mv 35]) .ret))))
theorem b_impl_Auto_step : Body Try.prog 190 36 c_impl_Auto_step [(.t 6)] := body_mk Try.func190 (by kernel_rfl) (by decide)
def c_spec_l4Next : ICode := (.seq (.reg [O1 3 (.box 4) 0, Ol 6 .mv [ci 0]]) (.seq (.reg [Ol 7 .mv [ci 0]]) (.seq (.seq (.reg [Ol 8 .mv [ci 0]]) (.block 0 (.loop (.seq (.seq (.reg [O1 10 .mv 8, O1 11 (.fadr 3) 3, O1 12 .ld1 11, O1 13 .len 12, O2 14 (.bin .lss) 10 13]) (.cond (.t 14) .skip (.exit 0))) (.seq (.block 1 (.seq (.reg [O1 17 (.fadr 3) 3, O1 18 .ld1 17, O1 19 .mv 8, O2 20 (.iadr 4) 18 19, O1 21 (.ldn 4) 20, O0 9 (.alc [(.int .i64 0), (.int .i64 0), (.int .i64 0), (.bool false)]), S2 (.st 4) 9 21]) (.seq (.reg [O1 22 (.fadr 1) 9, O1 23 .ld1 22, O1 24 .mv 2, O2 25 (.bin .eql) 23 24, O1 26 .mv 25, Og 27 .mv [.t 1] 26 true, Og 28 (.fadr 0) [.t 9] 26 true, Og 29 .ld1 [.t 28] 26 true, Og 30 (.call 73) [.t 27, .t 29] 26 true, Ol 31 .pick [.t 26, .t 30, cb false]]) (.cond (.t 31) (.reg [O1 32 .mv 7, O1 33 (.fadr 2) 9, O1 34 .ld1 33, O1 35 (.call 123) 34, O2 36 (.bin .or) 32 35, O1 7 .mv 36]) .skip)))) (.reg [O1 15 .mv 8, Ol 16 (.bin .add) [.t 15, ci 1], O1 8 .mv 16])))))) (.seq (.reg [O1 37 .mv 7, O1 6 .mv 37]) .ret))))
theorem b_spec_l4Next : Body Try.prog 161 38 c_spec_l4Next [(.t 6)] := body_mk Try.func161 (by kernel_rfl) (by decide)
def c_impl_Auto_pathWord_1 : ICode := (.seq (.reg [Ol 3 .mv [ci 0]]) (.seq (.reg [Ol 4 .mv [ci 0]]) (.seq (.seq (.reg [O1 7 .ld1 1, O1 8 .len 7, Ol 9 .mv [ci 0]]) (.block 0 (.loop (.seq (.reg [O2 10 (.bin .lss) 9 8]) (.seq (.cond (.t 10) .skip (.exit 0)) (.seq (.block 1 (.seq (.reg [O1 11 .mv 9, O2 12 (.iadr 1) 7 9, O1 13 .ld1 12, O1 5 .mv 11, O1 6 .mv 13]) (.seq (.reg [O1 14 .mv 6, O1 15 .mv 0, O2 16 (.bin .eql) 14 15]) (.cond (.t 16) (.reg [O1 17 .mv 4, O1 18 .mv 5, O1 19 (.call 141) 18, O2 20 (.bin .or) 17 19, O1 4 .mv 20]) .skip)))) (.reg [Ol 21 (.bin .add) [.t 9, ci 1], O1 9 .mv 21]))))))) (.seq (.reg [O1 22 .mv 4, O1 3 .mv 22]) .ret))))
theorem b_impl_Auto_pathWord_1 : Body Try.prog 189 23 c_impl_Auto_pathWord_1 [(.t 3)] := body_mk Try.func189 (by kernel_rfl) (by decide)
def c_impl_SetList : ICode := (.seq (.reg [Ol 2 .mv [.c .snil]]) (.seq (.seq (.reg [O1 5 .mv 0, O1 6 (.call 119) 5, O1 7 .not 6]) (.cond (.t 7) (.seq (.reg [Ol 2 .mv [.c .snil]]) .ret) .skip)) (.seq (.reg [Ol 3 .mv [.c .snil]]) (.seq (.seq (.reg [Ol 8 .mv [ci 0]]) (.block 0 (.loop (.seq (.reg [Ol 9 (.bin .lss) [.t 8, ci 31]]) (.seq (.cond (.t 9) .skip (.exit 0)) (.seq (.block 1 (.seq (.reg [O1 10 .mv 8, O1 4 .mv 10]) (.seq (.reg [O1 11 .mv 0, O1 12 .mv 4, O2 13 (.call 125) 11 12]) (.cond (.t 13) (.reg [O1 14 .mv 3, O1 15 .mv 4, O1 16 (.bslv 1) 15, O2 17 (.app 1 8) 14 16, O1 3 .mv 17]) .skip)))) (.reg [Ol 18 (.bin .add) [.t 8, ci 1], O1 8 .mv 18]))))))) (.seq (.reg [O1 19 .mv 3, O1 2 .mv 19]) .ret)))))
theorem b_impl_SetList : Body Try.prog 80 20 c_impl_SetList [(.t 2)] := body_mk Try.func80 (by kernel_rfl) (by decide)
def c_spec_l7Near : ICode := (.seq (.reg [Ol 4 .mv [ci 0], Ol 5 .mv [ci 0]]) (.seq (.reg [Ol 6 .mv [ci (-1)], Ol 7 .mv [ci 0]]) (.seq (.seq (.reg [Ol 8 .mv [ci 0]]) (.block 0 (.loop (.seq (.seq (.reg [O1 9 .mv 8, O1 10 .mv 0, O1 11 .len 10, O2 12 (.bin .lss) 9 11]) (.cond (.t 12) .skip (.exit 0))) (.seq (.block 1 (.seq (.seq (.reg [O1 15 .mv 1, O1 16 .mv 8, O2 17 (.call 73) 15 16, O1 18 .not 17, O1 19 .mv 18, Og 20 .mv [.t 0] 19 false, Og 21 .mv [.t 8] 19 false, Og 22 (.iadr 1) [.t 20, .t 21] 19 false, Og 23 .ld1 [.t 22] 19 false, Og 24 (.bin .lss) [.t 23, ci 0] 19 false, Ol 25 .pick [.t 19, cb true, .t 24], O1 26 .mv 25, Og 27 .mv [.t 6] 26 false, Og 28 (.bin .geq) [.t 27, ci 0] 26 false, Og 29 .mv [.t 28] 26 false, Og 30 .mv [.t 0] 29 true, Og 31 .mv [.t 8] 29 true, Og 32 (.iadr 1) [.t 30, .t 31] 29 true, Og 33 .ld1 [.t 32] 29 true, Og 34 .mv [.t 6] 29 true, Og 35 (.bin .gtr) [.t 33, .t 34] 29 true, Og 36 .pick [.t 29, .t 35, cb false] 26 false, Ol 37 .pick [.t 26, cb true, .t 36]]) (.cond (.t 37) (.exit 1) .skip)) (.seq (.seq (.reg [O1 38 .mv 6, Ol 39 (.bin .lss) [.t 38, ci 0], O1 40 .mv 39, Og 41 .mv [.t 0] 40 false, Og 42 .mv [.t 8] 40 false, Og 43 (.iadr 1) [.t 41, .t 42] 40 false, Og 44 .ld1 [.t 43] 40 false, Og 45 .mv [.t 6] 40 false, Og 46 (.bin .lss) [.t 44, .t 45] 40 false, Ol 47 .pick [.t 40, cb true, .t 46]]) (.cond (.t 47) (.seq (.reg [O1 48 .mv 0, O1 49 .mv 8, O2 50 (.iadr 1) 48 49, O1 51 .ld1 50, O1 6 .mv 51]) (.reg [Ol 7 .mv [ci 0]])) .skip)) (.reg [O1 52 .mv 7, O1 53 .mv 8, O1 54 (.call 123) 53, O2 55 (.bin .or) 52 54, O1 7 .mv 55])))) (.reg [O1 13 .mv 8, Ol 14 (.bin .add) [.t 13, ci 1], O1 8 .mv 14])))))) (.seq (.reg [O1 56 .mv 7, O1 57 .mv 6, O1 4 .mv 56, O1 5 .mv 57]) .ret))))
theorem b_spec_l7Near : Body Try.prog 192 58 c_spec_l7Near [(.t 4), (.t 5)] := body_mk Try.func192 (by kernel_rfl) (by decide)
def stepI (a : AutoD) (X : Nat) (x : Int) : Nat → Nat
  | 0 => 0
  | i + 1 => if (a.edges.getD i default).letter = x ∧ X.testBit (a.edges.getD i default).src.toNat = true then stepI a X x i ||| 2 ^ (a.edges.getD i default).dst.toNat else stepI a X x i
def stepU (a : AutoD) (X : Nat) (x : Int) : Nat := stepI a X x a.edges.length
theorem bit_stepI {a : AutoD} {X q : Nat} {x : Int} : ∀ {i : Nat}, (stepI a X x i).testBit q = true ↔ ∃ j, j < i ∧ (a.edges.getD j default).letter = x ∧ X.testBit (a.edges.getD j default).src.toNat = true ∧ (a.edges.getD j default).dst.toNat = q
  | 0 => by simp [stepI]
  | i + 1 => by
    unfold stepI
    split
    · rename_i h
      rw [testBit_ins, bit_stepI (i := i)]
      constructor
      · rintro (⟨j, h1, h2⟩ | rfl)
        · exact ⟨j, by omega, h2⟩
        · exact ⟨i, by omega, h.1, h.2, rfl⟩
      · rintro ⟨j, h1, h2, h3, h4⟩
        by_cases hj : j = i
        · subst hj; exact .inr h4.symm
        · exact .inl ⟨j, by omega, h2, h3, h4⟩
    · rename_i h
      rw [bit_stepI (i := i)]
      constructor
      · rintro ⟨j, h1, h2⟩; exact ⟨j, by omega, h2⟩
      · rintro ⟨j, h1, h2, h3, h4⟩
        by_cases hj : j = i
        · subst hj; exact absurd ⟨h2, h3⟩ h
        · exact ⟨j, by omega, h2, h3, h4⟩
theorem stepI_lt {a : AutoD} (h : AutoOk a) {X i : Nat} {x : Int} (hi : i ≤ a.edges.length) : stepI a X x i < 2 ^ a.states.toNat := lt_two_pow_of fun q hq => by
  obtain ⟨j, h1, _, _, h4⟩ := bit_stepI.1 hq
  have he := edge_in h (show j < a.edges.length by omega)
  unfold EdgeIn at he
  omega
theorem stepI_31 {a : AutoD} (h : AutoOk a) {X i : Nat} {x : Int} (hi : i ≤ a.edges.length) : stepI a X x i < 2 ^ 31 :=
  Nat.lt_of_lt_of_le (stepI_lt h hi) (pow_le31 (by have := h.1.2.1; omega))
theorem stepI_yes {a : AutoD} {X i : Nat} {x : Int} (h1 : (a.edges.getD i default).letter = x) (h2 : X.testBit (a.edges.getD i default).src.toNat = true) : stepI a X x (i + 1) = stepI a X x i ||| 2 ^ (a.edges.getD i default).dst.toNat := by
  rw [stepI, if_pos ⟨h1, h2⟩]
theorem stepI_no {a : AutoD} {X i : Nat} {x : Int} (h : ¬ ((a.edges.getD i default).letter = x ∧ X.testBit (a.edges.getD i default).src.toNat = true)) : stepI a X x (i + 1) = stepI a X x i := by
  rw [stepI, if_neg h]
def RStep (xs : List AV) (r : AV) (objs : List AObj) : Prop := ∃ (a : AutoD) (X : Nat) (x : Int), xs = [.rptr (autoRow a) 0, .int .i64 ((X : Nat) : Int), .int .i64 x] ∧ AutoOk a ∧ X < 2 ^ 31 ∧ r = .int .i64 ((stepU a X x : Nat) : Int) ∧ objs = []
theorem RStep_eq {xs : List AV} {a : AutoD} {X : Nat} {x : Int} (hx : xs = [.rptr (autoRow a) 0, .int .i64 ((X : Nat) : Int), .int .i64 x]) (h : AutoOk a) (h1 : X < 2 ^ 31) : RStep xs (.int .i64 ((stepU a X x : Nat) : Int)) [] := ⟨a, X, x, hx, h, h1, rfl, rfl⟩
set_option maxHeartbeats 4000000 in
theorem s_impl_step : PureSound Try.prog 190 RStep := by
  have hR : Rely Try.prog (ctxOf [(125, .pure RHas), (141, .pure RBit)]) := rely_cons b_impl_has.has s_impl_has (rely_cons b_impl_only.has s_impl_onlyB (rely_nil mixed))
  refine pure_of_aw b_impl_Auto_step ?_
  rintro xs r objs ⟨a, X, x, rfl, ha, hX, rfl, rfl⟩ -
  have hs := ha.1.2.1
  have hle := length_edgeRows a.edges
  have hl := ha.2.1
  refine ⟨by simp, vc2_sound hR _ _ _ _ _ ?_⟩
  conv => whnf
  repeat' ((first | contradiction | (refine And.intro (fun hb => ?_) (fun hb => ?_) <;> first | contradiction | ((try simp only [SB, reduceCtorEq] at hb); try (exfalso; first | contradiction | omega))) | refine G2 ?_ | rw [ints_at (by omega)] | rw [ints_at0 (by omega)] | rw [ints_at' (by omega) (by omega)] | refine G1 ?_ | fail) <;> conv => whnf)
  refine Lp.intro (α := Nat) (fun i => i ≤ a.edges.length) (fun i => a.edges.length - i) (fun i => [(0, .rptr (autoRow a) 0), (1, .int .i64 X), (2, .int .i64 x), (7, .int .i64 ((stepI a X x i : Nat) : Int)), (13, .val (edgeRows a.edges)), (14, .int .i64 a.edges.length), (15, .int .i64 i)]) (fun _ => []) ?_ ?_
  · refine ⟨0, Nat.zero_le _, [], rfl, rfl, trivial, ?_⟩
    exact ⟨.inl rfl, .inl rfl, .inl rfl, .inl rfl, .inl rfl, .inl (congrArg (fun x : Nat => AV.int .i64 x) hle), .inl rfl, trivial⟩
  intro i hi
  refine vc2_sound hR _ _ _ _ _ ?_
  by_cases hlt : i < a.edges.length
  · have he := edge_in ha hlt
    unfold EdgeIn at he
    have h31 := stepI_31 ha (X := X) (x := x) hi
    conv => whnf
    repeat' ((first | contradiction | (refine And.intro (fun hb => ?_) (fun hb => ?_) <;> first | contradiction | ((try simp only [SB, reduceCtorEq] at hb); try (exfalso; first | contradiction | omega))) | refine G2 ?_ | rw [ints_at (by omega)] | rw [ints_at0 (by omega)] | rw [ints_at' (by omega) (by omega)] | refine G1 ?_ | rw [edge_at (by omega)] | refine ⟨_, _, RHas_mk hX (by omega) (by omega), ?_⟩ | refine ⟨_, _, RBit_mk (by omega) (by omega), ?_⟩ | fail) <;> conv => whnf)
    · rename_i g1 g2
      refine ⟨i + 1, hlt, by omega, [], rfl, rfl, trivial, ?_⟩
      exact ⟨.inl rfl, .inl rfl, .inl rfl, .inl (congrArg (AV.int .i64) ((or_bit h31 (by omega) (by omega)).trans (by rw [stepI_yes (by assumption) (by assumption)]))), .inl rfl, .inl rfl, .inl rfl, trivial⟩
    · rename_i g1 g2
      refine ⟨i + 1, hlt, by omega, [], rfl, rfl, trivial, ?_⟩
      exact ⟨.inl rfl, .inl rfl, .inl rfl, .inl (congrArg (fun x : Nat => AV.int .i64 x) (stepI_no (by rintro ⟨_, h⟩; rw [g2] at h; cases h)).symm), .inl rfl, .inl rfl, .inl rfl, trivial⟩
    · refine ⟨i + 1, hlt, by omega, [], rfl, rfl, trivial, ?_⟩
      exact ⟨.inl rfl, .inl rfl, .inl rfl, .inl (congrArg (fun x : Nat => AV.int .i64 x) (stepI_no (by rintro ⟨h, _⟩; contradiction)).symm), .inl rfl, .inl rfl, .inl rfl, trivial⟩
  · conv => whnf
    repeat' ((first | contradiction | (refine And.intro (fun hb => ?_) (fun hb => ?_) <;> first | contradiction | ((try simp only [SB, reduceCtorEq] at hb); try (exfalso; first | contradiction | omega))) | refine G2 ?_ | rw [ints_at (by omega)] | rw [ints_at0 (by omega)] | rw [ints_at' (by omega) (by omega)] | refine G1 ?_ | fail) <;> conv => whnf)
    obtain rfl : i = a.edges.length := by omega
    refine ⟨.inl rfl, ?_⟩
    conv => whnf
    refine ⟨[], ⟨rfl, trivial⟩, ?_, rfl, rfl⟩
    conv => whnf
    left
    conv => lhs; whnf
    rfl
def RNext (xs : List AV) (r : AV) (objs : List AObj) : Prop := ∃ (a : AutoD) (X : Nat) (x : Int), xs = [.agg (autoRow a), .int .i64 ((X : Nat) : Int), .int .i64 x] ∧ AutoOk a ∧ X < 2 ^ 31 ∧ r = .int .i64 ((stepU a X x : Nat) : Int) ∧ objs = []
theorem RNext_eq {xs : List AV} {a : AutoD} {X : Nat} {x : Int} (hx : xs = [.agg (autoRow a), .int .i64 ((X : Nat) : Int), .int .i64 x]) (h : AutoOk a) (h1 : X < 2 ^ 31) : RNext xs (.int .i64 ((stepU a X x : Nat) : Int)) [] := ⟨a, X, x, hx, h, h1, rfl, rfl⟩
set_option maxHeartbeats 4000000 in
theorem s_spec_l4Next : PureSound Try.prog 161 RNext := by
  have hR : Rely Try.prog (ctxOf [(73, .pure RHas), (123, .pure RBit)]) := rely_cons b_spec_l1Has.has s_spec_l1Has (rely_cons b_spec_l1Bit.has s_spec_l1Bit (rely_nil mixed))
  refine pure_of_aw b_spec_l4Next ?_
  rintro xs r objs ⟨a, X, x, rfl, ha, hX, rfl, rfl⟩ -
  have hs := ha.1.2.1
  have hle := length_edgeRows a.edges
  have hl := ha.2.1
  refine ⟨by simp, vc2_sound hR _ _ _ _ _ ?_⟩
  conv => whnf
  repeat' ((first | contradiction | (refine And.intro (fun hb => ?_) (fun hb => ?_) <;> first | contradiction | ((try simp only [SB, reduceCtorEq] at hb); try (exfalso; first | contradiction | omega))) | refine G2 ?_ | rw [ints_at (by omega)] | rw [ints_at0 (by omega)] | rw [ints_at' (by omega) (by omega)] | refine G1 ?_ | fail) <;> conv => whnf)
  refine Lp.intro (α := Nat) (fun i => i ≤ a.edges.length) (fun i => a.edges.length - i) (fun i => [(1, .int .i64 X), (2, .int .i64 x), (3, .ptr 0 0 0), (7, .int .i64 ((stepI a X x i : Nat) : Int)), (8, .int .i64 i)]) (fun _ => [some (.box (autoRow a))]) ?_ ?_
  · refine ⟨0, Nat.zero_le _, [some 0], rfl, rfl, And.intro (And.intro (.inl rfl) (And.intro (.inl rfl) (And.intro (.inl rfl) (And.intro (.inl rfl) trivial)))) trivial, ?_⟩
    exact ⟨.inl rfl, .inl rfl, rfl, .inl rfl, .inl rfl, trivial⟩
  intro i hi
  refine vc2_sound hR _ _ _ _ _ ?_
  by_cases hlt : i < a.edges.length
  · have he := edge_in ha hlt
    unfold EdgeIn at he
    have h31 := stepI_31 ha (X := X) (x := x) hi
    conv => whnf
    repeat' ((first | contradiction | (refine And.intro (fun hb => ?_) (fun hb => ?_) <;> first | contradiction | ((try simp only [SB, reduceCtorEq] at hb); try (exfalso; first | contradiction | omega))) | refine G2 ?_ | rw [ints_at (by omega)] | rw [ints_at0 (by omega)] | rw [ints_at' (by omega) (by omega)] | refine G1 ?_ | rw [edge_at (by omega)] | refine ⟨_, _, RHas_mk hX (by omega) (by omega), ?_⟩ | refine ⟨_, _, RBit_mk (by omega) (by omega), ?_⟩ | fail) <;> conv => whnf)
    · rename_i g1 g2
      refine ⟨i + 1, hlt, by omega, [some 0], rfl, rfl, And.intro (And.intro (.inl rfl) (And.intro (.inl rfl) (And.intro (.inl rfl) (And.intro (.inl rfl) trivial)))) trivial, ?_⟩
      exact ⟨.inl rfl, .inl rfl, rfl, .inl (congrArg (AV.int .i64) ((or_bit h31 (by omega) (by omega)).trans (by rw [stepI_yes (by assumption) (by assumption)]))), .inl rfl, trivial⟩
    · rename_i g1 g2
      refine ⟨i + 1, hlt, by omega, [some 0], rfl, rfl, And.intro (And.intro (.inl rfl) (And.intro (.inl rfl) (And.intro (.inl rfl) (And.intro (.inl rfl) trivial)))) trivial, ?_⟩
      exact ⟨.inl rfl, .inl rfl, rfl, .inl (congrArg (fun x : Nat => AV.int .i64 x) (stepI_no (by rintro ⟨_, h⟩; rw [g2] at h; cases h)).symm), .inl rfl, trivial⟩
    · refine ⟨i + 1, hlt, by omega, [some 0], rfl, rfl, And.intro (And.intro (.inl rfl) (And.intro (.inl rfl) (And.intro (.inl rfl) (And.intro (.inl rfl) trivial)))) trivial, ?_⟩
      exact ⟨.inl rfl, .inl rfl, rfl, .inl (congrArg (fun x : Nat => AV.int .i64 x) (stepI_no (by rintro ⟨h, _⟩; contradiction)).symm), .inl rfl, trivial⟩
  · conv => whnf
    repeat' ((first | contradiction | (refine And.intro (fun hb => ?_) (fun hb => ?_) <;> first | contradiction | ((try simp only [SB, reduceCtorEq] at hb); try (exfalso; first | contradiction | omega))) | refine G2 ?_ | rw [ints_at (by omega)] | rw [ints_at0 (by omega)] | rw [ints_at' (by omega) (by omega)] | refine G1 ?_ | fail) <;> conv => whnf)
    obtain rfl : i = a.edges.length := by omega
    refine ⟨.inl rfl, ?_⟩
    conv => whnf
    refine ⟨[], ⟨rfl, trivial⟩, ?_, rfl, rfl⟩
    conv => whnf
    left
    conv => lhs; whnf
    rfl
/-! ### those that are so near -/
def RAtN (xs : List AV) (r : AV) (objs : List AObj) : Prop := ∃ (F : List Int) (n : Int), xs = [.int .i64 n, .rptr [.val (ints F)] 0] ∧ F.length ≤ 31 ∧ r = .int .i64 ((atN F n F.length : Nat) : Int) ∧ objs = []
theorem RAtN_eq {xs : List AV} {F : List Int} {n : Int} (hx : xs = [.int .i64 n, .rptr [.val (ints F)] 0]) (h : F.length ≤ 31) : RAtN xs (.int .i64 ((atN F n F.length : Nat) : Int)) [] := ⟨F, n, hx, h, rfl, rfl⟩
theorem atN_lt {F : List Int} {k : Int} {n : Nat} (h : n ≤ 31) : atN F k n < 2 ^ 31 := Nat.lt_of_lt_of_le bitsOf_lt (pow_le31 h)
theorem atN_yes {F : List Int} {k : Int} {i : Nat} (h : F.getD i 0 = k) : atN F k (i + 1) = atN F k i ||| 2 ^ i := by
  unfold atN; rw [bitsOf, if_pos h]
theorem atN_no {F : List Int} {k : Int} {i : Nat} (h : F.getD i 0 ≠ k) : atN F k (i + 1) = atN F k i := by
  unfold atN; rw [bitsOf, if_neg h]
theorem s_impl_atN : PureSound Try.prog 189 RAtN := by
  have hR : Rely Try.prog (ctxOf [(141, .pure RBit)]) := rely_cons b_impl_only.has s_impl_onlyB (rely_nil mixed)
  refine pure_of_aw b_impl_Auto_pathWord_1 ?_
  rintro xs r objs ⟨F, n, rfl, hF, rfl, rfl⟩ -
  have hle := length_ints F
  refine ⟨by simp, vc2_sound hR _ _ _ _ _ ?_⟩
  conv => whnf
  repeat' ((first | contradiction | (refine And.intro (fun hb => ?_) (fun hb => ?_) <;> first | contradiction | ((try simp only [SB, reduceCtorEq] at hb); try (exfalso; first | contradiction | omega))) | refine G2 ?_ | rw [ints_at (by omega)] | rw [ints_at0 (by omega)] | rw [ints_at' (by omega) (by omega)] | refine G1 ?_ | fail) <;> conv => whnf)
  refine Lp.intro (α := Nat) (fun i => i ≤ F.length) (fun i => F.length - i) (fun i => [(0, .int .i64 n), (4, .int .i64 ((atN F n i : Nat) : Int)), (7, .val (ints F)), (8, .int .i64 F.length), (9, .int .i64 i)]) (fun _ => []) ?_ ?_
  · refine ⟨0, Nat.zero_le _, [], rfl, rfl, trivial, ?_⟩
    exact ⟨.inl rfl, .inl rfl, .inl rfl, .inl (congrArg (fun x : Nat => AV.int .i64 x) hle), .inl rfl, trivial⟩
  intro i hi
  refine vc2_sound hR _ _ _ _ _ ?_
  by_cases hlt : i < F.length
  · have h31 := atN_lt (F := F) (k := n) (n := i) (by omega)
    conv => whnf
    repeat' ((first | contradiction | (refine And.intro (fun hb => ?_) (fun hb => ?_) <;> first | contradiction | ((try simp only [SB, reduceCtorEq] at hb); try (exfalso; first | contradiction | omega))) | refine G2 ?_ | rw [ints_at (by omega)] | rw [ints_at0 (by omega)] | rw [ints_at' (by omega) (by omega)] | refine G1 ?_ | refine ⟨_, _, RBit_mk (by omega) (by omega), ?_⟩ | fail) <;> conv => whnf)
    · refine ⟨i + 1, hlt, by omega, [], rfl, rfl, trivial, ?_⟩
      exact ⟨.inl rfl, .inl (congrArg (AV.int .i64) ((or_bit h31 (by omega) (by omega)).trans (by rw [atN_yes (by assumption)]; simp))), .inl rfl, .inl rfl, .inl rfl, trivial⟩
    · refine ⟨i + 1, hlt, by omega, [], rfl, rfl, trivial, ?_⟩
      exact ⟨.inl rfl, .inl (congrArg (fun x : Nat => AV.int .i64 x) (atN_no (by assumption)).symm), .inl rfl, .inl rfl, .inl rfl, trivial⟩
  · conv => whnf
    repeat' ((first | contradiction | (refine And.intro (fun hb => ?_) (fun hb => ?_) <;> first | contradiction | ((try simp only [SB, reduceCtorEq] at hb); try (exfalso; first | contradiction | omega))) | refine G2 ?_ | rw [ints_at (by omega)] | rw [ints_at0 (by omega)] | rw [ints_at' (by omega) (by omega)] | refine G1 ?_ | fail) <;> conv => whnf)
    obtain rfl : i = F.length := by omega
    refine ⟨.inl rfl, ?_⟩
    conv => whnf
    refine ⟨[], ⟨rfl, trivial⟩, ?_, rfl, rfl⟩
    conv => whnf
    left
    conv => lhs; whnf
/-! ### the members of a set, as a list -/
def RSetList (xs : List AV) (r : AV) (objs : List AObj) : Prop := ∃ X : Nat, xs = [.int .i64 ((X : Nat) : Int)] ∧ X < 2 ^ 31 ∧ r = .ref 0 0 (bitL X 31).length ∧ objs = [.arr 1 (ints (natsI (bitL X 31)))]
theorem RSetList_mk {X : Nat} (h : X < 2 ^ 31) : RSetList [.int .i64 ((X : Nat) : Int)] (.ref 0 0 (bitL X 31).length) [.arr 1 (ints (natsI (bitL X 31)))] := ⟨X, rfl, h, rfl, rfl⟩
theorem bitL_yes {X i : Nat} (h : X.testBit i = true) : bitL X (i + 1) = bitL X i ++ [i] := by rw [bitL_succ, if_pos h]
theorem bitL_no {X i : Nat} (h : X.testBit i = false) : bitL X (i + 1) = bitL X i := by rw [bitL_succ, if_neg (by rw [h]; decide), List.append_nil]
theorem s_impl_SetList : PureSound Try.prog 80 RSetList := by
  have hR : Rely Try.prog (ctxOf [(125, .pure RHas), (119, .pure RSetOk)]) := rely_cons b_impl_has.has s_impl_has (rely_cons b_impl_SetOk.has s_impl_SetOk (rely_nil mixed))
  refine pure_of_aw b_impl_SetList ?_
  rintro xs r objs ⟨X, rfl, hX, rfl, rfl⟩ -
  refine ⟨by simp, vc2_sound hR _ _ _ _ _ ?_⟩
  conv => whnf
  repeat' ((first | contradiction | (refine And.intro (fun hb => ?_) (fun hb => ?_) <;> first | contradiction | ((try simp only [SB, reduceCtorEq] at hb); try (exfalso; first | contradiction | omega))) | refine G2 ?_ | rw [ints_at (by omega)] | rw [ints_at0 (by omega)] | rw [ints_at' (by omega) (by omega)] | refine G1 ?_ | refine ⟨_, _, RSetOk_mk, ?_⟩ | fail) <;> conv => whnf)
  refine Lp.intro (α := Nat) (fun i => i ≤ 31) (fun i => 31 - i) (fun i => [(0, .int .i64 X), (3, .ref 0 0 (bitL X i).length), (8, .int .i64 i)]) (fun i => [some (.arr 1 (ints (natsI (bitL X i))))]) ?_ ?_
  · refine ⟨0, by omega, [none], rfl, rfl, And.intro rfl trivial, ?_⟩
    exact ⟨.inl rfl, ⟨rfl, rfl, rfl⟩, .inl rfl, trivial⟩
  intro i hi
  have hn := bitL_len (X := X) (n := i)
  have hqi := (length_ints (natsI (bitL X i))).trans (length_natsI _)
  refine vc2_sound hR _ _ _ _ _ ?_
  by_cases hlt : i < 31
  · conv => whnf
    repeat' ((first | contradiction | (refine And.intro (fun hb => ?_) (fun hb => ?_) <;> first | contradiction | ((try simp only [SB, reduceCtorEq] at hb); try (exfalso; first | contradiction | omega))) | refine G2 ?_ | rw [ints_at (by omega)] | rw [ints_at0 (by omega)] | rw [ints_at' (by omega) (by omega)] | refine G1 ?_ | refine ⟨_, _, RHas_mk hX (by omega) (by omega), ?_⟩ | fail) <;> conv => whnf)
    · refine ⟨i + 1, by omega, by omega, [some 1], rfl, rfl, And.intro (And.intro rfl ?_) trivial, ?_⟩
      · rw [bitL_yes (by assumption)]; exact natsI_app rfl
      · exact ⟨.inl rfl, congrArg (AV.ref 1 0) (by rw [bitL_yes (by assumption)]; simp), .inl rfl, trivial⟩
    · have e := bitL_no (X := X) (i := i) (by assumption)
      refine ⟨i + 1, by omega, by omega, [some 0], rfl, rfl, And.intro (And.intro rfl ?_) trivial, ?_⟩
      · rw [e]
      · exact ⟨.inl rfl, congrArg (AV.ref 0 0) (by rw [e]), .inl rfl, trivial⟩
  · obtain rfl : i = 31 := by omega
    conv => whnf
    repeat' ((first | contradiction | (refine And.intro (fun hb => ?_) (fun hb => ?_) <;> first | contradiction | ((try simp only [SB, reduceCtorEq] at hb); try (exfalso; first | contradiction | omega))) | refine G2 ?_ | rw [ints_at (by omega)] | rw [ints_at0 (by omega)] | rw [ints_at' (by omega) (by omega)] | refine G1 ?_ | fail) <;> conv => whnf)
    refine ⟨.inl rfl, ?_⟩
    conv => whnf
    exact ⟨[some 0], ⟨rfl, And.intro (And.intro rfl rfl) trivial⟩, rfl, rfl, by simp [AObj.nov, ints_nov]⟩
/-! ### the nearest of a set -/
def RNear (xs : List AV) (r : AV) (objs : List AObj) : Prop := ∃ (F : List Int) (X : Nat), xs = [.val (ints F), .int .i64 ((X : Nat) : Int)] ∧ F.length ≤ 31 ∧ X < 2 ^ 31 ∧
  r = .tup [.int .i64 ((nearN F X (best F (bitL X F.length)) F.length : Nat) : Int), .int .i64 (best F (bitL X F.length))] ∧ objs = []
theorem RNear_eq {xs : List AV} {F : List Int} {X : Nat} (hx : xs = [.val (ints F), .int .i64 ((X : Nat) : Int)]) (h : F.length ≤ 31) (h1 : X < 2 ^ 31) :
    RNear xs (.tup [.int .i64 ((nearN F X (best F (bitL X F.length)) F.length : Nat) : Int), .int .i64 (best F (bitL X F.length))]) [] := ⟨F, X, hx, h, h1, rfl, rfl⟩
theorem nearN_lt {F : List Int} {X : Nat} {k : Int} {n : Nat} (h : n ≤ 31) : nearN F X k n < 2 ^ 31 := Nat.lt_of_lt_of_le bitsOf_lt (pow_le31 h)
set_option maxHeartbeats 4000000 in
theorem s_spec_l7Near : PureSound Try.prog 192 RNear := by
  have hR : Rely Try.prog (ctxOf [(73, .pure RHas), (123, .pure RBit)]) := rely_cons b_spec_l1Has.has s_spec_l1Has (rely_cons b_spec_l1Bit.has s_spec_l1Bit (rely_nil mixed))
  refine pure_of_aw b_spec_l7Near ?_
  rintro xs r objs ⟨F, X, rfl, hF, hX, rfl, rfl⟩ -
  have hle := length_ints F
  refine ⟨by simp, vc2_sound hR _ _ _ _ _ ?_⟩
  conv => whnf
  repeat' ((first | contradiction | (refine And.intro (fun hb => ?_) (fun hb => ?_) <;> first | contradiction | ((try simp only [SB, reduceCtorEq] at hb); try (exfalso; first | contradiction | omega))) | refine G2 ?_ | rw [ints_at (by omega)] | rw [ints_at0 (by omega)] | rw [ints_at' (by omega) (by omega)] | refine G1 ?_ | fail) <;> conv => whnf)
  refine Lp.intro (α := Nat) (fun i => i ≤ F.length) (fun i => F.length - i) (fun i => [(0, .val (ints F)), (1, .int .i64 X), (6, .int .i64 (best F (bitL X i))), (7, .int .i64 ((nearN F X (best F (bitL X i)) i : Nat) : Int)), (8, .int .i64 i)]) (fun _ => []) ?_ ?_
  · refine ⟨0, Nat.zero_le _, [], rfl, rfl, trivial, ?_⟩
    exact ⟨.inl rfl, .inl rfl, .inl rfl, .inl rfl, .inl rfl, trivial⟩
  intro i hi
  refine vc2_sound hR _ _ _ _ _ ?_
  by_cases hlt : i < F.length
  · have hg := best_ge (F := F) (L := bitL X i)
    have h31 := nearN_lt (F := F) (X := X) (k := best F (bitL X i)) (n := i) (by omega)
    conv => whnf
    repeat' ((first | contradiction | (refine And.intro (fun hb => ?_) (fun hb => ?_) <;> first | contradiction | ((try simp only [SB, reduceCtorEq] at hb); try (exfalso; first | contradiction | omega))) | refine G2 ?_ | rw [ints_at (by omega)] | rw [ints_at0 (by omega)] | rw [ints_at' (by omega) (by omega)] | refine G1 ?_ | refine ⟨_, _, RHas_mk hX (by omega) (by omega), ?_⟩ | refine ⟨_, _, RBit_mk (by omega) (by omega), ?_⟩ | fail) <;> conv => whnf)
    all_goals
      first
      | (obtain ⟨e1, e2⟩ := nearN_none (F := F) (X := X) (n := i) (by first | exact .inr (by omega) | (left; intro h; exact Bool.noConfusion (h.symm.trans (show X.testBit i = false by assumption))))
         rw [e1] at e2
         refine ⟨i + 1, hlt, by omega, [], rfl, rfl, trivial, ?_⟩
         exact ⟨.inl rfl, .inl rfl, .inl (congrArg (AV.int .i64) e1.symm), .inl (congrArg (fun x : Nat => AV.int .i64 x) (by (try dsimp only); rw [e1]; exact e2.symm)), .inl rfl, trivial⟩)
      | (obtain ⟨e1, e2⟩ := nearN_less (F := F) (X := X) (n := i) (by assumption) (by omega) (by omega)
         refine ⟨i + 1, hlt, by omega, [], rfl, rfl, trivial, ?_⟩
         exact ⟨.inl rfl, .inl rfl, .inl (congrArg (AV.int .i64) e1.symm), .inl (congrArg (AV.int .i64) ((or_bit (X := 0) (by decide) (by omega) (by omega)).trans (by (try dsimp only); rw [e2]; simp))), .inl rfl, trivial⟩)
      | (obtain ⟨e1, e2⟩ := nearN_same (F := F) (X := X) (n := i) (by assumption) (by omega) (by omega)
         rw [e1] at e2
         refine ⟨i + 1, hlt, by omega, [], rfl, rfl, trivial, ?_⟩
         exact ⟨.inl rfl, .inl rfl, .inl (congrArg (AV.int .i64) e1.symm), .inl (congrArg (AV.int .i64) ((or_bit h31 (by omega) (by omega)).trans (by (try dsimp only); rw [e1, e2]; simp))), .inl rfl, trivial⟩)
  · conv => whnf
    repeat' ((first | contradiction | (refine And.intro (fun hb => ?_) (fun hb => ?_) <;> first | contradiction | ((try simp only [SB, reduceCtorEq] at hb); try (exfalso; first | contradiction | omega))) | refine G2 ?_ | rw [ints_at (by omega)] | rw [ints_at0 (by omega)] | rw [ints_at' (by omega) (by omega)] | refine G1 ?_ | fail) <;> conv => whnf)
    obtain rfl : i = F.length := by omega
    refine ⟨.inl rfl, ?_⟩
    conv => whnf
    refine ⟨[], ⟨rfl, trivial⟩, ?_, rfl, rfl⟩
    repeat' (first | exact trivial | refine And.intro ?_ ?_)
    all_goals
      conv => whnf
      left
      conv => lhs; whnf
end Go.Proofs.Ythanhknkoikbfaa.Ct
namespace Go.Proofs.Ythanhknkoikbfaa.Ct
set_option linter.unusedSimpArgs false
set_option linter.unusedVariables false
open Go Go.Proofs Go.Proofs.Ythanhknkoikbfaa.Av Go.Proofs.Ythanhknkoikbfaa.Pl
def c_spec_GenTakes : ICode := (.seq (.reg [O1 2 (.box 5) 0, O1 3 (.box 2) 1, Ol 4 .mv [cb false]]) (.seq (.seq (.reg [O1 13 (.ldn 5) 2, O1 14 (.call 69) 13, O1 15 .not 14, O1 16 .mv 15, Og 17 (.ldn 2) [.t 3] 16 false, Og 18 (.fadr 0) [.t 2] 16 false, Og 19 .ld1 [.t 18] 16 false, Og 20 (.call 47) [.t 17, .t 19] 16 false, Og 21 .not [.t 20] 16 false, Ol 22 .pick [.t 16, cb true, .t 21], O1 23 .mv 22, Og 24 (.fadr 1) [.t 2] 23 false, Og 25 .ld1 [.t 24] 23 false, Og 26 (.bin .eql) [.t 25, ci 0] 23 false, Ol 27 .pick [.t 23, cb true, .t 26]]) (.cond (.t 27) (.seq (.reg [Ol 4 .mv [cb false]]) .ret) .skip)) (.seq (.reg [O1 28 (.ldn 5) 2, O1 29 (.ldn 2) 3, O2 30 (.call 99) 28 29, O1 5 .mv 30]) (.seq (.reg [O1 31 .mv 5, O1 32 .len 31, O2 33 (.mks 1 8 [(.int .i64 0)]) 32 32, O1 6 .mv 33]) (.seq (.reg [O1 34 .mv 5, O1 35 .len 34, O2 36 (.mks 1 1 [(.bool false)]) 35 35, O1 7 .mv 36]) (.seq (.seq (.reg [Ol 8 .mv [ci 0]]) (.block 0 (.loop (.seq (.seq (.reg [O1 37 .mv 8, O1 38 (.ldn 2) 3, O1 39 (.call 91) 38, O2 40 (.bin .lss) 37 39]) (.cond (.t 40) .skip (.exit 0))) (.seq (.block 1 (.seq (.reg [Ol 9 .mv [ci 0]]) (.block 2 (.loop (.seq (.seq (.reg [O1 43 .mv 9, O1 44 (.fadr 4) 2, O1 45 .ld1 44, O1 46 .len 45, O2 47 (.bin .lss) 43 46]) (.cond (.t 47) .skip (.exit 2))) (.seq (.block 3 (.seq (.reg [O1 50 (.fadr 4) 2, O1 51 .ld1 50, O1 52 .mv 9, O2 53 (.iadr 4) 51 52, O1 54 (.ldn 4) 53, O0 10 (.alc [(.int .i64 0), (.int .i64 0), (.int .i64 0), (.int .i64 0)]), S2 (.st 4) 10 54]) (.seq (.reg [O1 55 .mv 8, O1 56 (.fadr 1) 2, O1 57 .ld1 56, O2 58 (.bin .mul) 55 57, O1 59 (.fadr 0) 10, O1 60 .ld1 59, O2 61 (.bin .add) 58 60, O1 11 .mv 61]) (.seq (.drw [O1 62 (.fadr 1) 10, O1 63 .ld1 62, O1 64 (.ldn 2) 3, O1 65 .mv 8, O2 66 (.call 93) 64 65, O2 67 (.bin .eql) 63 66, O1 68 .mv 67, Og 69 .mv [.t 5] 68 true, Og 70 .mv [.t 11] 68 true, Og 71 (.iadr 1) [.t 69, .t 70] 68 true, Og 72 .ld1 [.t 71] 68 true, Og 73 (.bin .geq) [.t 72, ci 0] 68 true, Ol 74 .pick [.t 68, .t 73, cb false], O1 75 .mv 74, Og 76 .mv [.t 5] 75 true, Og 77 .mv [.t 11] 75 true, Og 78 (.iadr 1) [.t 76, .t 77] 75 true, Og 79 .ld1 [.t 78] 75 true, Og 80 .mv [.t 5] 75 true, Og 81 (.ldn 2) [.t 3] 75 true, Og 82 .mv [.t 8] 75 true, Og 83 (.call 92) [.t 81, .t 82] 75 true, Og 84 (.fadr 1) [.t 2] 75 true, Og 85 .ld1 [.t 84] 75 true, Og 86 (.bin .mul) [.t 83, .t 85] 75 true, Og 87 (.fadr 2) [.t 10] 75 true, Og 88 .ld1 [.t 87] 75 true, Og 89 (.bin .add) [.t 86, .t 88] 75 true, Og 90 (.iadr 1) [.t 80, .t 89] 75 true, Og 91 .ld1 [.t 90] 75 true, Og 92 (.bin .eql) [.t 79, .t 91] 75 true, Ol 93 .pick [.t 75, .t 92, cb false]] (unB [0, 1, 0, 0, 12, 31, 63, 127, 127, 511, 1023, 2047, 4095, 8191, 16383, 16383, 65535, 131071, 16383, 16383, 16383, 1589247, 16383, 4210687, 16269311, 16383, 33570815, 133709823, 268189695, 536625151, 1073741823, 2147483647] 0) true true) (.cond (.t 93) (.seq (.reg [O1 94 .mv 7, O1 95 .mv 5, O1 96 .mv 11, O2 97 (.iadr 1) 95 96, O1 98 .ld1 97, O2 99 (.iadr 1) 94 98, Sl (.st 1) [.t 99, cb true]]) (.drw [O1 100 .mv 6, O1 101 .mv 5, O1 102 .mv 11, O2 103 (.iadr 1) 101 102, O1 104 .ld1 103, O1 105 .mv 6, O1 106 .mv 5, O1 107 .mv 11, O2 108 (.iadr 1) 106 107, O1 109 .ld1 108, O2 110 (.iadr 1) 105 109, O1 111 .ld1 110, O1 112 (.fadr 3) 10, O1 113 .ld1 112, O2 114 (.bin .or) 111 113, O2 115 (.iadr 1) 100 104, S2 (.st 1) 115 114] (unB [0, 0, 0, 6, 14, 0, 0, 0, 192, 448, 992, 2016, 0, 4096, 16352, 32767, 65535] 0) true true)) .skip))))) (.reg [O1 48 .mv 9, Ol 49 (.bin .add) [.t 48, ci 1], O1 9 .mv 49]))))))) (.reg [O1 41 .mv 8, Ol 42 (.bin .add) [.t 41, ci 1], O1 8 .mv 42])))))) (.seq (.seq (.reg [Ol 12 .mv [ci 0]]) (.block 4 (.loop (.seq (.seq (.reg [O1 116 .mv 12, O1 117 .mv 6, O1 118 .len 117, O2 119 (.bin .lss) 116 118]) (.cond (.t 119) .skip (.exit 4))) (.seq (.block 5 (.seq (.drw [O1 122 .mv 7, O1 123 .mv 12, O2 124 (.iadr 1) 122 123, O1 125 .ld1 124, O1 126 .mv 125, Og 127 .mv [.t 6] 126 true, Og 128 .mv [.t 12] 126 true, Og 129 (.iadr 1) [.t 127, .t 128] 126 true, Og 130 .ld1 [.t 129] 126 true, Og 131 (.fadr 3) [.t 2] 126 true, Og 132 .ld1 [.t 131] 126 true, Og 133 (.bin .shl) [ci 1, .t 132] 126 true, Og 134 (.bin .sub) [.t 133, ci 1] 126 true, Og 135 (.bin .eql) [.t 130, .t 134] 126 true, Ol 136 .pick [.t 126, .t 135, cb false]] (unB [0, 0, 3, 7, 15, 31, 31, 127, 255, 31, 543, 1567, 3615, 8191, 16383] 0) true true) (.cond (.t 136) (.seq (.reg [Ol 4 .mv [cb true]]) .ret) .skip))) (.reg [O1 120 .mv 12, Ol 121 (.bin .add) [.t 120, ci 1], O1 12 .mv 121])))))) (.seq (.reg [Ol 4 .mv [cb false]]) .ret))))))))
theorem b_spec_GenTakes : Body Try.prog 68 137 c_spec_GenTakes [(.t 4)] := body_mk Try.func68 (by kernel_rfl) (by decide)
def TakesG (g : GenD) (s l : List Int) : Prop := GenOk g ∧ wordOk s l g.letters = true ∧ Lives (ptsG g.states.toNat s l g.edges) (bitL g.start.toNat 31) (2 ^ g.sets.toNat - 1)
def InS (g : GenD) (s l : List Int) (C : List Int) (r : Int) (q i : Nat) : Prop := q < s.length + l.length ∧ i < g.edges.length ∧ (g.edges.getD i default).letter = letN s l q ∧ 0 ≤ r ∧
  C.getD (q * g.states.toNat + (g.edges.getD i default).src.toNat) 0 = r ∧ C.getD (nextN s l q * g.states.toNat + (g.edges.getD i default).dst.toNat) 0 = r
structure TkI (g : GenD) (s l : List Int) (C : List Int) (p j : Nat) (S : List Bool) (M : List Int) : Prop where
  ls : S.length = C.length
  lm : M.length = C.length
  pos : ∀ r, 0 ≤ M.getD r 0 ∧ M.getD r 0 < 2 ^ 31
  sm : ∀ r : Nat, r < C.length → (S.getD r false = true ↔ ∃ q i, Bef p j q i ∧ InS g s l C r q i)
  mb : ∀ r : Nat, r < C.length → ∀ b, (M.getD r 0).toNat.testBit b = true ↔ ∃ q i, Bef p j q i ∧ InS g s l C r q i ∧ (g.edges.getD i default).marks.toNat.testBit b = true
section
variable {g : GenD} {s l : List Int} {C : List Int} {p j : Nat} {S : List Bool} {M : List Int}
theorem bef_zero {q i : Nat} : ¬ Bef 0 0 q i := by unfold Bef; omega
theorem tk_start : TkI g s l C 0 0 (List.replicate C.length false) (List.replicate C.length 0) := by
  have e : ∀ r, (List.replicate C.length (0 : Int)).getD r 0 = 0 := fun r => by
    rw [List.getD_eq_getElem?_getD, List.getElem?_replicate]; split <;> rfl
  have e2 : ∀ r, (List.replicate C.length false).getD r false = false := fun r => by
    rw [List.getD_eq_getElem?_getD, List.getElem?_replicate]; split <;> rfl
  refine ⟨by simp, by simp, fun r => by rw [e]; decide, fun r _ => ?_, fun r _ b => ?_⟩
  · rw [e2]
    exact ⟨fun h => (by cases h), fun ⟨q, i, h, _⟩ => absurd h bef_zero⟩
  · rw [e]
    exact ⟨fun h => (by simp at h), fun ⟨q, i, h, _⟩ => absurd h bef_zero⟩
theorem TkI.next (h : TkI g s l C p j S M) (hj : g.edges.length ≤ j) : TkI g s l C (p + 1) 0 S M := by
  have key : ∀ q i r, InS g s l C r q i → (Bef p j q i ↔ Bef (p + 1) 0 q i) := by
    rintro q i r ⟨_, h2, _⟩
    unfold Bef
    by_cases hq : q = p
    · subst hq; constructor <;> intro <;> omega
    · constructor <;> intro <;> omega
  refine ⟨h.ls, h.lm, h.pos, fun r hr => (h.sm r hr).trans ?_, fun r hr b => (h.mb r hr b).trans ?_⟩
  · exact ⟨fun ⟨q, i, h1, h2⟩ => ⟨q, i, (key q i r h2).1 h1, h2⟩, fun ⟨q, i, h1, h2⟩ => ⟨q, i, (key q i r h2).2 h1, h2⟩⟩
  · exact ⟨fun ⟨q, i, h1, h2, h3⟩ => ⟨q, i, (key q i r h2).1 h1, h2, h3⟩, fun ⟨q, i, h1, h2, h3⟩ => ⟨q, i, (key q i r h2).2 h1, h2, h3⟩⟩
theorem TkI.skip (h : TkI g s l C p j S M) (hn : ∀ r, ¬ InS g s l C r p j) : TkI g s l C p (j + 1) S M := by
  refine ⟨h.ls, h.lm, h.pos, fun r hr => (h.sm r hr).trans ?_, fun r hr b => (h.mb r hr b).trans ?_⟩
  · refine ⟨fun ⟨q, i, h1, h2⟩ => ⟨q, i, bef_succ.2 (.inl h1), h2⟩, fun ⟨q, i, h1, h2⟩ => ⟨q, i, ?_, h2⟩⟩
    rcases bef_succ.1 h1 with h1 | ⟨rfl, rfl⟩
    · exact h1
    · exact absurd h2 (hn r)
  · refine ⟨fun ⟨q, i, h1, h2⟩ => ⟨q, i, bef_succ.2 (.inl h1), h2⟩, fun ⟨q, i, h1, h2, h3⟩ => ⟨q, i, ?_, h2, h3⟩⟩
    rcases bef_succ.1 h1 with h1 | ⟨rfl, rfl⟩
    · exact h1
    · exact absurd h2 (hn r)
theorem TkI.put (h : TkI g s l C p j S M) {z : Nat} (hz : z < C.length) (hin : InS g s l C z p j) {m : Nat} (hm : (g.edges.getD j default).marks.toNat = m) (hml : m < 2 ^ 31) :
    TkI g s l C p (j + 1) (S.set z true) (M.set z (((M.getD z 0).toNat ||| m : Nat) : Int)) := by
  have hp := h.pos z
  have hlt : (M.getD z 0).toNat ||| m < 2 ^ 31 := Nat.or_lt_two_pow (by omega) hml
  have hr : ∀ r : Int, InS g s l C r p j → r = z := fun r ⟨_, _, _, _, h1, _⟩ => by rw [← h1]; exact hin.2.2.2.2.1
  have hls := h.ls
  have hlm := h.lm
  have e1 : ∀ r, (S.set z true).getD r false = if z = r then true else S.getD r false := fun r => by
    rw [getD_setB]
    by_cases h1 : z = r
    · subst h1; rw [if_pos ⟨rfl, by omega⟩, if_pos rfl]
    · rw [if_neg (fun h => h1 h.1), if_neg h1]
  have e2 : ∀ r, (M.set z (((M.getD z 0).toNat ||| m : Nat) : Int)).getD r 0 = if z = r then (((M.getD z 0).toNat ||| m : Nat) : Int) else M.getD r 0 := fun r => by
    rw [Pl.getD_set]
    by_cases h1 : z = r
    · subst h1; rw [if_pos ⟨rfl, by omega⟩, if_pos rfl]
    · rw [if_neg (fun h => h1 h.1), if_neg h1]
  refine ⟨by simpa using hls, by simpa using hlm, fun r => ?_, fun r hrl => ?_, fun r hrl b => ?_⟩
  · rw [e2]; split
    · omega
    · exact h.pos r
  · rw [e1]
    by_cases hzr : z = r
    · subst hzr
      rw [if_pos rfl]
      exact ⟨fun _ => ⟨p, j, bef_succ.2 (.inr ⟨rfl, rfl⟩), hin⟩, fun _ => rfl⟩
    · rw [if_neg hzr, h.sm r hrl]
      refine ⟨fun ⟨q, i, h1, h2⟩ => ⟨q, i, bef_succ.2 (.inl h1), h2⟩, fun ⟨q, i, h1, h2⟩ => ⟨q, i, ?_, h2⟩⟩
      rcases bef_succ.1 h1 with h1 | ⟨rfl, rfl⟩
      · exact h1
      · have := hr _ h2; omega
  · rw [e2]
    by_cases hzr : z = r
    · subst hzr
      rw [if_pos rfl, Int.toNat_natCast, Nat.testBit_or, Bool.or_eq_true, h.mb z hrl]
      constructor
      · rintro (⟨q, i, h1, h2⟩ | h1)
        · exact ⟨q, i, bef_succ.2 (.inl h1), h2⟩
        · exact ⟨p, j, bef_succ.2 (.inr ⟨rfl, rfl⟩), hin, by rw [hm]; exact h1⟩
      · rintro ⟨q, i, h1, h2, h3⟩
        rcases bef_succ.1 h1 with h1 | ⟨rfl, rfl⟩
        · exact .inl ⟨q, i, h1, h2, h3⟩
        · exact .inr (by rw [← hm]; exact h3)
    · rw [if_neg hzr, h.mb r hrl]
      refine ⟨fun ⟨q, i, h1, h2⟩ => ⟨q, i, bef_succ.2 (.inl h1), h2⟩, fun ⟨q, i, h1, h2, h3⟩ => ⟨q, i, ?_, h2, h3⟩⟩
      rcases bef_succ.1 h1 with h1 | ⟨rfl, rfl⟩
      · exact h1
      · have := hr _ h2; omega
end
theorem length_ptsG {n : Nat} {s l : List Int} {es : List GEdgeD} : (ptsG n s l es).length = (s.length + l.length) * n := by simp [ptsG, mkG]
theorem gstart_lt {g : GenD} (hg : GenOk g) : g.start.toNat < 2 ^ g.states.toNat := by
  have hh := hg.1.2.2
  rw [show g.start = ((g.start.toNat : Nat) : Int) by omega] at hh
  exact Int.ofNat_lt.1 (by rw [Int.natCast_pow]; exact hh.2.2)
theorem beg_rch {g : GenD} (hg : GenOk g) {s l : List Int} (hl0 : 0 < l.length) {x : Nat} : Beg g s l x ↔ Rch (PA g s l) (· ∈ bitL g.start.toNat 31) x := by
  rw [beg_iff hg hl0]
  have e : (fun x => x < (s.length + l.length) * g.states.toNat ∧ AtS g (oneS (s.length + l.length) 0 g.start.toNat) x) = (· ∈ bitL g.start.toNat 31) := by
    funext x
    refine propext ?_
    have hs := gstart_lt hg
    have hst := hg.1.2.1
    unfold AtS
    rw [oneS_at, mem_bitL]
    constructor
    · rintro ⟨h1, h2⟩
      split at h2
      · rename_i hq
        have hb := bit_lt hs h2
        have := pt_eq (n := g.states.toNat) (x := x)
        rw [hq.1, Nat.zero_mul, Nat.zero_add] at this
        rw [this] at h2 hb
        exact ⟨by omega, h2⟩
      · simp at h2
    · rintro ⟨h1, h2⟩
      have hb := bit_lt hs h2
      have h3 : x / g.states.toNat = 0 := Nat.div_eq_of_lt hb
      have h4 : x % g.states.toNat = x := Nat.mod_eq_of_lt hb
      rw [if_pos ⟨h3, by omega⟩, h4]
      refine ⟨Nat.lt_of_lt_of_le hb ?_, h2⟩
      have := Nat.mul_le_mul_right g.states.toNat (show 1 ≤ s.length + l.length by omega)
      omega
  rw [e]
theorem edge_ix {g : GenD} {e : GEdgeD} (he : e ∈ g.edges) : ∃ i, i < g.edges.length ∧ g.edges.getD i default = e := by
  obtain ⟨i, hi, rfl⟩ := List.getElem_of_mem he
  exact ⟨i, hi, by rw [List.getD_eq_getElem?_getD, List.getElem?_eq_getElem hi]; rfl⟩
theorem pow_toNat {m k : Int} (h0 : 0 ≤ m) (h : m < 2 ^ k.toNat) : m.toNat < 2 ^ k.toNat := by
  rw [show m = ((m.toNat : Nat) : Int) by omega] at h
  exact Int.ofNat_lt.1 (by rw [Int.natCast_pow]; exact h)
theorem takes_of {g : GenD} (hg : GenOk g) {s l : List Int} (hl0 : 0 < l.length) {C : List Int} (hC : IsComps (PA g s l) (Beg g s l) ((s.length + l.length) * g.states.toNat) C) {S : List Bool} {M : List Int} (h : TkI g s l C (s.length + l.length) 0 S M) :
    (∃ r, r < C.length ∧ S.getD r false = true ∧ M.getD r 0 = 2 ^ g.sets.toNat - 1) ↔ Lives (ptsG g.states.toNat s l g.edges) (bitL g.start.toNat 31) (2 ^ g.sets.toNat - 1) := by
  have hBm := fun p q (h : Beg g s l p) (hm : Mut (PA g s l) p q) => beg_mut hg hl0 p q h hm.1
  have hgin : ∀ i, i < g.edges.length → GIn g (g.edges.getD i default) := fun i hi => gin hg hi
  have hCl := hC.1
  have hps : ∀ r, 0 ≤ M.getD r 0 := fun r => (h.pos r).1
  have hst := hg.1.2.1
  have hpow : ((2 ^ g.sets.toNat - 1 : Nat) : Int) = 2 ^ g.sets.toNat - 1 := by
    have := Nat.two_pow_pos g.sets.toNat
    rw [Int.natCast_sub (by omega), Int.natCast_pow]; rfl
  have hms : ∀ r, r < C.length → (M.getD r 0 = 2 ^ g.sets.toNat - 1 ↔ ∀ b, (2 ^ g.sets.toNat - 1).testBit b = true → (M.getD r 0).toNat.testBit b = true) := fun r hr => by
    rw [← hpow]
    constructor
    · intro he b hb
      rw [he, Int.toNat_natCast]; exact hb
    · intro hb
      have : (M.getD r 0).toNat = 2 ^ g.sets.toNat - 1 := bits_ext fun b => ⟨fun hh => ?_, hb b⟩
      · have := hps r; omega
      · obtain ⟨q, i, _, h2, h3⟩ := (h.mb r hr b).1 hh
        have := hgin i h2.2.1
        unfold GIn at this
        rw [Nat.testBit_two_pow_sub_one]
        exact decide_eq_true (bit_lt (pow_toNat this.2.2.2.1 this.2.2.2.2.2) h3)
  have hpt : ∀ r q i, InS g s l C r q i → q * g.states.toNat + (g.edges.getD i default).src.toNat < (s.length + l.length) * g.states.toNat ∧ nextN s l q * g.states.toNat + (g.edges.getD i default).dst.toNat < (s.length + l.length) * g.states.toNat ∧
      (nextN s l q * g.states.toNat + (g.edges.getD i default).dst.toNat, (g.edges.getD i default).marks) ∈ (ptsG g.states.toNat s l g.edges).getD (q * g.states.toNat + (g.edges.getD i default).src.toNat) [] := by
    rintro r q i ⟨h1, h2, h3, _⟩
    have hi := hgin i h2
    unfold GIn at hi
    refine ⟨pt_lt h1 (by omega), pt_lt (nextN_lt h1 hl0) (by omega), (step_pts hg).2 ?_⟩
    rw [pt_div (by omega), pt_mod (by omega)]
    exact ⟨h1, _, getD_mem' h2, h3, rfl, rfl, rfl⟩
  unfold Lives
  rw [length_ptsG, adj_pts hg]
  constructor
  · rintro ⟨r, hr, h1, h2⟩
    obtain ⟨q, i, _, hin⟩ := (h.sm r hr).1 h1
    obtain ⟨g1, g2, g3⟩ := hpt _ q i hin
    obtain ⟨_, _, _, _, c1, c2⟩ := hin
    have hb := (hC.begun g1).1 (by rw [c1]; omega)
    refine ⟨_, g1, (beg_rch hg hl0).1 hb, ⟨_, g3, (hC.eq g1 g2 hb hBm).1 (c1.trans c2.symm)⟩, fun b hbit => ?_⟩
    obtain ⟨q', i', _, hin', hbit'⟩ := (h.mb r hr b).1 ((hms r hr).1 h2 b hbit)
    obtain ⟨k1, k2, k3⟩ := hpt _ q' i' hin'
    obtain ⟨_, _, _, _, d1, d2⟩ := hin'
    exact ⟨_, _, k3, (hC.eq g1 k1 hb hBm).1 (c1.trans d1.symm), (hC.eq g1 k2 hb hBm).1 (c1.trans d2.symm), hbit'⟩
  · rintro ⟨p, hp, hr, ⟨⟨y, m⟩, hs, hm⟩, hall⟩
    have hb := (beg_rch hg hl0).2 hr
    obtain ⟨z, hz, c1, c2, c3⟩ := (hC.2 p hp).1 hb
    have key : ∀ q y m, (y, m) ∈ (ptsG g.states.toNat s l g.edges).getD q [] → Mut (PA g s l) p q → Mut (PA g s l) p y → ∃ i, InS g s l C z (q / g.states.toNat) i ∧ (g.edges.getD i default).marks = m := by
      intro q y m hst hpq hpy
      obtain ⟨h1, e, he, h2, h3, h4, h5⟩ := (step_pts hg).1 hst
      obtain ⟨i, hi, rfl⟩ := edge_ix he
      have hi' := hgin i hi
      unfold GIn at hi'
      have hql := pt_lt (n := g.states.toNat) (v := q % g.states.toNat) h1 (by omega)
      rw [pt_eq] at hql
      have hyl := pt_lt (n := g.states.toNat) (v := (g.edges.getD i default).dst.toNat) (nextN_lt h1 hl0) (by omega)
      rw [← h4] at hyl
      refine ⟨i, ⟨h1, hi, h2, by omega, ?_, ?_⟩, h5.symm⟩
      · rw [h3, pt_eq, ← (hC.eq hp hql hb hBm).2 hpq]; exact c1
      · rw [← h4, ← (hC.eq hp hyl hb hBm).2 hpy]; exact c1
    have hbef : ∀ q i, q < s.length + l.length → Bef (s.length + l.length) 0 q i := fun q i hq => .inl hq
    refine ⟨z, by omega, (h.sm z (by omega)).2 ?_, (hms z (by omega)).2 fun b hbit => (h.mb z (by omega) b).2 ?_⟩
    · obtain ⟨i, hi, _⟩ := key p y m hs Mut.refl hm
      exact ⟨_, i, hbef _ _ hi.1, hi⟩
    · obtain ⟨q, ⟨y', m'⟩, hs', hpq, hpy, hb'⟩ := hall b hbit
      obtain ⟨i, hi, rfl⟩ := key q y' m' hs' hpq hpy
      exact ⟨_, i, hbef _ _ hi.1, hi, hb'⟩
theorem bools_rep {n : Nat} : List.replicate ((n : Nat) : Int).toNat [AV.bool false] = bools (List.replicate n false) := by simp [bools]
theorem ints_rep0 {n : Nat} : List.replicate ((n : Nat) : Int).toNat [AV.int .i64 0] = ints (List.replicate n 0) := by simp [ints]
theorem let_ok {s l : List Int} {k : Int} (h : wordOk s l k = true) : LetOk s l ∧ s.length ≤ 40 ∧ l.length ≤ 40 ∧ 0 < l.length := by
  unfold wordOk at h
  simp only [Bool.and_eq_true, decide_eq_true_eq] at h
  obtain ⟨⟨⟨⟨h1, h2⟩, h3⟩, h4⟩, h5⟩ := h
  refine ⟨fun p hp => ?_, h2, by omega, by omega⟩
  have key : ∀ (l : List Int), lettersB l k = true → ∀ i, i < l.length → 0 ≤ l.getD i 0 ∧ l.getD i 0 < 8 := fun l hl i hi => by
    simp only [lettersB, List.all_eq_true, decide_eq_true_eq] at hl
    have hm : l.getD i 0 ∈ l := by rw [List.getD_eq_getElem?_getD, List.getElem?_eq_getElem hi]; exact List.getElem_mem hi
    have := hl _ hm
    omega
  unfold letN
  split
  · rename_i hh; exact key s h4 p hh
  · exact key l h5 _ (by omega)
theorem RComps_eq {xs : List AV} {g : GenD} {s l : List Int} (hx : xs = [.agg (genRow g), wordV s l]) (hg : GenOk g) (h0 : 0 < g.states) (hw : LetOk s l) (h1 : s.length ≤ 100) (h2 : l.length ≤ 100) (h3 : 0 < l.length) :
  RComps xs (.ref 0 0 ((s.length + l.length) * g.states.toNat)) [.arr 1 (ints (compsL (PA g s l) (Beg g s l) ((s.length + l.length) * g.states.toNat)))] := ⟨g, s, l, hx, hg, h0, hw, h1, h2, h3, rfl, rfl⟩
def RTakesG (xs : List AV) (r : AV) (objs : List AObj) : Prop := ∃ (g : GenD) (s l : List Int) (b : Bool), xs = [.agg (genRow g), wordV s l] ∧ (b = true ↔ TakesG g s l) ∧ r = .bool b ∧ objs = []
set_option maxHeartbeats 8000000 in
theorem s_spec_GenTakes : PureSound Try.prog 68 RTakesG := by
  have hR : Rely Try.prog (ctxOf [(69, .pure RGenOk), (47, .pure RWordOk), (99, .pure RComps), (91, .pure RPlacesS), (93, .pure RL3At), (92, .pure RAfter)]) :=
    rely_cons b_spec_GenOk.has s_spec_GenOk (rely_cons b_spec_WordOk.has s_spec_WordOk (rely_cons b_spec_l6Comps.has s_spec_l6Comps (rely_cons b_spec_l6Places.has s_spec_l6Places (rely_cons b_spec_l3At.has s_spec_l3At (rely_cons b_spec_l6After.has s_spec_l6After (rely_nil mixed))))))
  refine pure_of_aw b_spec_GenTakes ?_
  rintro xs r objs ⟨g, s, l, b, rfl, hb0, rfl, rfl⟩ -
  refine ⟨by simp, vc2_sound hR _ _ _ _ _ ?_⟩
  have hno : ¬ TakesG g s l → b = false := fun h => Bool.eq_false_iff.2 fun hb => h (hb0.1 hb)
  by_cases hg : GenOk g
  rotate_left
  · obtain rfl := hno fun h => hg h.1
    conv => whnf
    repeat' ((first | contradiction | (refine And.intro (fun hb => ?_) (fun hb => ?_) <;> first | contradiction | ((try simp only [SB, reduceCtorEq] at hb); try (exfalso; first | contradiction | omega))) | refine G2 ?_ | rw [ints_at (by omega)] | rw [ints_at0 (by omega)] | rw [ints_at' (by omega) (by omega)] | refine G1 ?_ | refine ⟨_, _, RGenOk_mk, ?_⟩ | refine ⟨_, _, RWordOk_mk, ?_⟩ | fail) <;> conv => whnf)
    refine ⟨.inl rfl, ?_⟩
    conv => whnf
    refine ⟨[], ⟨rfl, trivial⟩, ?_, rfl, rfl⟩
    conv => whnf
    left
    conv => lhs; whnf
  cases hw : wordOk s l g.letters
  · obtain rfl := hno fun h => by have := h.2.1; rw [hw] at this; cases this
    conv => whnf
    repeat' ((first | contradiction | (refine And.intro (fun hb => ?_) (fun hb => ?_) <;> first | contradiction | ((try simp only [SB, reduceCtorEq] at hb); try (exfalso; first | contradiction | omega))) | refine G2 ?_ | rw [ints_at (by omega)] | rw [ints_at0 (by omega)] | rw [ints_at' (by omega) (by omega)] | refine G1 ?_ | refine ⟨_, _, RGenOk_mk, ?_⟩ | refine ⟨_, _, ⟨s, l, g.letters, rfl, congrArg AV.bool hw.symm, rfl⟩, ?_⟩ | fail) <;> conv => whnf)
    refine ⟨.inl rfl, ?_⟩
    conv => whnf
    refine ⟨[], ⟨rfl, trivial⟩, ?_, rfl, rfl⟩
    conv => whnf
    left
    conv => lhs; whnf
  obtain ⟨hlo, hs, hl, hl0⟩ := let_ok hw
  by_cases h0 : g.states = 0
  · obtain rfl := hno fun h => by
      obtain ⟨_, _, p, hp, _⟩ := h
      rw [length_ptsG, h0] at hp
      simp at hp
    conv => whnf
    repeat' ((first | contradiction | (refine And.intro (fun hb => ?_) (fun hb => ?_) <;> first | contradiction | ((try simp only [SB, reduceCtorEq] at hb); try (exfalso; first | contradiction | omega))) | refine G2 ?_ | rw [ints_at (by omega)] | rw [ints_at0 (by omega)] | rw [ints_at' (by omega) (by omega)] | refine G1 ?_ | refine ⟨_, _, RGenOk_mk, ?_⟩ | refine ⟨_, _, ⟨s, l, g.letters, rfl, congrArg AV.bool hw.symm, rfl⟩, ?_⟩ | fail) <;> conv => whnf)
    refine ⟨.inl rfl, ?_⟩
    conv => whnf
    refine ⟨[], ⟨rfl, trivial⟩, ?_, rfl, rfl⟩
    conv => whnf
    left
    conv => lhs; whnf
  have hst := hg.1.2.1
  have hNN : (s.length + l.length) * g.states.toNat ≤ 80 * 31 := Nat.mul_le_mul (by omega) (by omega)
  have hC := isComps_L (PA g s l) (Beg g s l) ((s.length + l.length) * g.states.toNat)
  have hto := fun S M h => takes_of hg hl0 hC (S := S) (M := M) h
  have hrc : ∀ xs, xs = [.agg (genRow g), wordV s l] → RComps xs (.ref 0 0 ((s.length + l.length) * g.states.toNat)) [.arr 1 (ints (compsL (PA g s l) (Beg g s l) ((s.length + l.length) * g.states.toNat)))] := fun xs hx => RComps_eq hx hg (by omega) hlo (by omega) (by omega) hl0
  have hCl := hC.1
  have hel := length_gedgeRows g.edges
  have hel2 := hg.2.2.1
  have hptl : ∀ p v, p < s.length + l.length → v < g.states.toNat → p * g.states.toNat + v < (s.length + l.length) * g.states.toNat := fun p v h1 h2 => pt_lt h1 h2
  generalize hCC : compsL (PA g s l) (Beg g s l) ((s.length + l.length) * g.states.toNat) = C at *
  generalize hM : (s.length + l.length) * g.states.toNat = M at *
  have hCi := (length_ints C).trans hCl
  conv => whnf
  repeat' ((first | contradiction | (refine And.intro (fun hb => ?_) (fun hb => ?_) <;> first | contradiction | ((try simp only [SB, reduceCtorEq] at hb); try (exfalso; first | contradiction | omega))) | refine G2 ?_ | rw [ints_at (by omega)] | rw [ints_at0 (by omega)] | rw [ints_at' (by omega) (by omega)] | refine G1 ?_ | refine ⟨_, _, RGenOk_mk, ?_⟩ | refine ⟨_, _, ⟨s, l, g.letters, rfl, congrArg AV.bool hw.symm, rfl⟩, ?_⟩ | refine ⟨_, _, hrc _ rfl, ?_⟩ | fail) <;> conv => whnf)
  clear hb
  refine Lp.intro (α := Nat × List Bool × List Int) (fun c => TkI g s l C c.1 0 c.2.1 c.2.2 ∧ c.1 ≤ s.length + l.length) (fun c => s.length + l.length - c.1)
    (fun c => [(2, .rptr (genRow g) 0), (3, wordP s l), (5, .val (ints C)), (6, .ref 0 0 M), (7, .ref 1 0 M), (8, .int .i64 c.1)]) (fun c => [some (.arr 1 (ints c.2.2)), some (.arr 1 (bools c.2.1))]) ?_ ?_
  · refine ⟨(0, List.replicate C.length false, List.replicate C.length 0), ⟨tk_start, Nat.zero_le _⟩, [some 3, some 4], rfl, rfl, And.intro (And.intro rfl ?_) (And.intro (And.intro rfl ?_) trivial), ?_⟩
    · rw [hCl]; exact ints_rep0
    · rw [hCl]; exact bools_rep
    · exact ⟨.inr rfl, .inr rfl, .inr (snap_all rfl hCi), rfl, rfl, .inl rfl, trivial⟩
  rintro ⟨p, S, MM⟩ ⟨hI, hp⟩
  dsimp only at hI hp ⊢
  refine vc2_sound hR _ _ _ _ _ ?_
  by_cases hlt : p < s.length + l.length
  · conv => whnf
    repeat' ((first | contradiction | (refine And.intro (fun hb => ?_) (fun hb => ?_) <;> first | contradiction | ((try simp only [SB, reduceCtorEq] at hb); try (exfalso; first | contradiction | omega))) | refine G2 ?_ | rw [ints_at (by omega)] | rw [ints_at0 (by omega)] | rw [ints_at' (by omega) (by omega)] | refine G1 ?_ | refine ⟨_, _, RPlacesS_eq rfl (by omega) (by omega), ?_⟩ | fail) <;> conv => whnf)
    refine Lp.intro (α := Nat × List Bool × List Int) (fun c => TkI g s l C p c.1 c.2.1 c.2.2 ∧ c.1 ≤ g.edges.length) (fun c => g.edges.length - c.1)
      (fun c => [(2, .rptr (genRow g) 0), (3, wordP s l), (5, .val (ints C)), (6, .ref 0 0 M), (7, .ref 1 0 M), (8, .int .i64 p), (9, .int .i64 c.1)]) (fun c => [some (.arr 1 (ints c.2.2)), some (.arr 1 (bools c.2.1))]) ?_ ?_
    · refine ⟨(0, S, MM), ⟨hI, Nat.zero_le _⟩, [some 0, some 1], rfl, rfl, And.intro (And.intro rfl rfl) (And.intro (And.intro rfl rfl) trivial), ?_⟩
      exact ⟨.inl rfl, .inl rfl, .inl rfl, rfl, rfl, .inl rfl, .inl rfl, trivial⟩
    clear hI MM S
    rintro ⟨i, S, MM⟩ ⟨hI, hi⟩
    dsimp only at hI hi ⊢
    have hSl := hI.ls.trans hCl
    have hMl := hI.lm.trans hCl
    have hMi := (length_ints MM).trans hMl
    have hSi := (length_bools S).trans hSl
    refine vc2_sound hR _ _ _ _ _ ?_
    by_cases hil : i < g.edges.length
    · have hin := gin hg hil
      have hat := gedge_at hil
      have hnx := nextN_lt hlt hl0
      unfold GIn at hin
      have hXl := hptl p (g.edges.getD i default).src.toNat hlt (by omega)
      have hYl := hptl (nextN s l p) (g.edges.getD i default).dst.toNat hnx (by omega)
      have hX : IntKind.i64.wrap (((p : Nat) : Int) * g.states) = ((p * g.states.toNat : Nat) : Int) := by
        rw [show ((p : Nat) : Int) * g.states = ((p * g.states.toNat : Nat) : Int) by rw [Int.natCast_mul, Int.toNat_of_nonneg hst.1]]
        exact IntWalk.i64_in _ (by omega)
      have hY : IntKind.i64.wrap (((nextN s l p : Nat) : Int) * g.states) = ((nextN s l p * g.states.toNat : Nat) : Int) := by
        rw [show ((nextN s l p : Nat) : Int) * g.states = ((nextN s l p * g.states.toNat : Nat) : Int) by rw [Int.natCast_mul, Int.toNat_of_nonneg hst.1]]
        exact IntWalk.i64_in _ (by omega)
      have hskip : ∀ r, InS g s l C r p i → (g.edges.getD i default).letter = letN s l p ∧ 0 ≤ C.getD (p * g.states.toNat + (g.edges.getD i default).src.toNat) 0 ∧
        C.getD (p * g.states.toNat + (g.edges.getD i default).src.toNat) 0 = C.getD (nextN s l p * g.states.toNat + (g.edges.getD i default).dst.toNat) 0 := fun r ⟨_, _, h3, h4, h5, h6⟩ => ⟨h3, by omega, h5.trans h6.symm⟩
      have hput : ∀ z : Nat, z < C.length → C.getD (p * g.states.toNat + (g.edges.getD i default).src.toNat) 0 = z → (g.edges.getD i default).letter = letN s l p →
        C.getD (p * g.states.toNat + (g.edges.getD i default).src.toNat) 0 = C.getD (nextN s l p * g.states.toNat + (g.edges.getD i default).dst.toNat) 0 → TkI g s l C p (i + 1) (S.set z true) (MM.set z (((MM.getD z 0).toNat ||| (g.edges.getD i default).marks.toNat : Nat) : Int)) :=
        fun z hz h1 h2 h3 => hI.put hz ⟨hlt, hil, h2, by omega, h1, by omega⟩ rfl (by omega)
      have hkeep : (∀ r, ¬ InS g s l C r p i) → TkI g s l C p (i + 1) S MM := fun h => hI.skip h
      have hpos := hI.pos
      have hCX : ∀ X, X < M → C.getD X 0 < 0 ∨ ∃ z : Nat, z < M ∧ C.getD X 0 = z := fun X hX => by
        by_cases hbx : Beg g s l X
        · obtain ⟨z, h1, h2, _⟩ := (hC.2 X hX).1 hbx
          exact .inr ⟨z, h1, h2⟩
        · have := (hC.2 X hX).2 hbx
          exact .inl (by omega)
      have hcx := hCX _ hXl
      generalize g.edges.getD i default = e at *
      obtain ⟨X, hXX⟩ : ∃ X, p * g.states.toNat + e.src.toNat = X := ⟨_, rfl⟩
      obtain ⟨Y, hYY⟩ : ∃ Y, nextN s l p * g.states.toNat + e.dst.toNat = Y := ⟨_, rfl⟩
      rw [hXX] at hXl hskip hput hcx
      rw [hYY] at hYl hskip hput
      have hXi : ((p * g.states.toNat : Nat) : Int) + e.src = ((X : Nat) : Int) := by omega
      have hYi : ((nextN s l p * g.states.toNat : Nat) : Int) + e.dst = ((Y : Nat) : Int) := by omega
      generalize p * g.states.toNat = pn at *
      generalize nextN s l p * g.states.toNat = qn at *
      have aX := ints_at (xs := C) (i := X) (by omega)
      have aY := ints_at (xs := C) (i := Y) (by omega)
      rcases hcx with hneg | ⟨z, hz, hzz⟩
      · generalize C.getD X 0 = cx at *
        conv => whnf
        repeat' ((first | contradiction | (refine And.intro (fun hb => ?_) (fun hb => ?_) <;> first | contradiction | ((try simp only [SB, reduceCtorEq] at hb); try (exfalso; first | contradiction | omega))) | rw [hat] | rw [hXi] | rw [aX] | refine G2 ?_ | rw [ints_at (by omega)] | rw [ints_at0 (by omega)] | rw [ints_at' (by omega) (by omega)] | refine G1 ?_ | refine ⟨_, hX, ?_⟩ | refine ⟨_, _, RL3At_eq rfl (by omega) (by omega) hlt, ?_⟩ | fail) <;> conv => whnf)
        all_goals
          refine ⟨(i + 1, S, MM), ⟨hkeep fun r hr => ?_, hil⟩, by dsimp only; omega, [some 0, some 1], rfl, rfl, And.intro (And.intro rfl rfl) (And.intro (And.intro rfl rfl) trivial), ?_⟩
          · have := hskip r hr; omega
          · exact ⟨.inl rfl, .inl rfl, .inl rfl, rfl, rfl, .inl rfl, .inl rfl, trivial⟩
      · rw [hzz] at aX hput hskip
        generalize C.getD Y 0 = cy at *
        have hor := or_val (X := (MM.getD z 0).toNat) (Y := e.marks.toNat) (by have := hpos z; omega) (by omega)
        rw [Int.toNat_of_nonneg (hpos z).1, Int.toNat_of_nonneg hin.2.2.2.1] at hor
        have aM := ints_at0 (xs := MM) (i := z) (by omega)
        have aS := bools_at0 (l := S) (i := z) (by omega)
        conv => whnf
        repeat' ((first | contradiction | (refine And.intro (fun hb => ?_) (fun hb => ?_) <;> first | contradiction | ((try simp only [SB, reduceCtorEq] at hb); try (exfalso; first | contradiction | omega))) | rw [hat] | rw [hXi] | rw [hYi] | rw [aX] | rw [aY] | rw [aM] | rw [aS] | refine G2 ?_ | rw [ints_at (by omega)] | rw [ints_at0 (by omega)] | rw [ints_at' (by omega) (by omega)] | refine G1 ?_ | refine ⟨_, hX, ?_⟩ | refine ⟨_, hY, ?_⟩ | refine ⟨_, _, RL3At_eq rfl (by omega) (by omega) hlt, ?_⟩ | refine ⟨_, _, RAfter_eq rfl (by omega) (by omega) hlt, ?_⟩ | fail) <;> conv => whnf)
        · refine ⟨(i + 1, S.set z true, _), ⟨hput z (by omega) rfl (by assumption) (by assumption), hil⟩, by dsimp only; omega, [some 0, some 1], rfl, rfl, And.intro (And.intro rfl ?_) (And.intro (And.intro rfl bools_set) trivial), ?_⟩
          · rw [← ints_set]
            exact congrArg (fun v => (ints MM).set (0 + ((z : Nat) : Int).toNat) [AV.int .i64 v]) hor
          · exact ⟨.inl rfl, .inl rfl, .inl rfl, rfl, rfl, .inl rfl, .inl rfl, trivial⟩
        all_goals
          refine ⟨(i + 1, S, MM), ⟨hkeep fun r hr => ?_, hil⟩, by dsimp only; omega, [some 0, some 1], rfl, rfl, And.intro (And.intro rfl rfl) (And.intro (And.intro rfl rfl) trivial), ?_⟩
          · have := hskip r hr; omega
          · exact ⟨.inl rfl, .inl rfl, .inl rfl, rfl, rfl, .inl rfl, .inl rfl, trivial⟩
    · conv => whnf
      repeat' ((first | contradiction | (refine And.intro (fun hb => ?_) (fun hb => ?_) <;> first | contradiction | ((try simp only [SB, reduceCtorEq] at hb); try (exfalso; first | contradiction | omega))) | refine G2 ?_ | rw [ints_at (by omega)] | rw [ints_at0 (by omega)] | rw [ints_at' (by omega) (by omega)] | refine G1 ?_ | fail) <;> conv => whnf)
      refine ⟨(p + 1, S, MM), ⟨hI.next (by omega), hlt⟩, by dsimp only; omega, [some 0, some 1], rfl, rfl, And.intro (And.intro rfl rfl) (And.intro (And.intro rfl rfl) trivial), ?_⟩
      exact ⟨.inl rfl, .inl rfl, .inl rfl, rfl, rfl, .inl rfl, trivial⟩
  · obtain rfl : p = s.length + l.length := by omega
    have hSl := hI.ls.trans hCl
    have hMl := hI.lm.trans hCl
    have hMi := (length_ints MM).trans hMl
    have hSi := (length_bools S).trans hSl
    have hfin := hto _ _ hI
    have hsets := hg.2.1
    conv => whnf
    repeat' ((first | contradiction | (refine And.intro (fun hb => ?_) (fun hb => ?_) <;> first | contradiction | ((try simp only [SB, reduceCtorEq] at hb); try (exfalso; first | contradiction | omega))) | refine G2 ?_ | rw [ints_at (by omega)] | rw [ints_at0 (by omega)] | rw [ints_at' (by omega) (by omega)] | refine G1 ?_ | refine ⟨_, _, RPlacesS_eq rfl (by omega) (by omega), ?_⟩ | fail) <;> conv => whnf)
    refine Lp.intro (α := Nat) (fun r => r ≤ M ∧ ∀ k, k < r → ¬ (S.getD k false = true ∧ MM.getD k 0 = 2 ^ g.sets.toNat - 1)) (fun r => M - r)
      (fun r => [(2, .rptr (genRow g) 0), (6, .ref 0 0 M), (7, .ref 1 0 M), (12, .int .i64 r)]) (fun c => [some (.arr 1 (ints MM)), some (.arr 1 (bools S))]) ?_ ?_
    · refine ⟨0, ⟨Nat.zero_le _, fun k hk => by omega⟩, [some 0, some 1], rfl, rfl, And.intro (And.intro rfl rfl) (And.intro (And.intro rfl rfl) trivial), ?_⟩
      exact ⟨.inl rfl, rfl, rfl, .inl rfl, trivial⟩
    rintro r ⟨hr, hall⟩
    refine vc2_sound hR _ _ _ _ _ ?_
    by_cases hrl : r < M
    · have aM := ints_at0 (xs := MM) (i := r) (by omega)
      have aS := bools_at0 (l := S) (i := r) (by omega)
      conv => whnf
      repeat' ((first | contradiction | (refine And.intro (fun hb => ?_) (fun hb => ?_) <;> first | contradiction | ((try simp only [SB, reduceCtorEq] at hb); try (exfalso; first | contradiction | omega))) | rw [aM] | rw [aS] | refine G2 ?_ | rw [ints_at (by omega)] | rw [ints_at0 (by omega)] | rw [ints_at' (by omega) (by omega)] | refine G1 ?_ | refine ⟨_, mask_in (by omega) (by omega), ?_⟩ | fail) <;> conv => whnf)
      · refine ⟨.inl rfl, ?_⟩
        conv => whnf
        refine ⟨[], ⟨rfl, trivial⟩, ?_, rfl, rfl⟩
        conv => whnf
        left
        conv => lhs; whnf
        refine congrArg AV.bool (Eq.symm (hb0.2 ⟨hg, hw, hfin.1 ⟨r, by omega, ?_, ?_⟩⟩)) <;> assumption
      all_goals
        refine ⟨r + 1, ⟨hrl, fun k hk => ?_⟩, by omega, [some 0, some 1], rfl, rfl, And.intro (And.intro rfl rfl) (And.intro (And.intro rfl rfl) trivial), ?_⟩
        · by_cases hkr : k = r
          · subst hkr; intro hh; simp_all
          · exact hall k (by omega)
        · exact ⟨.inl rfl, rfl, rfl, .inl rfl, trivial⟩
    · conv => whnf
      repeat' ((first | contradiction | (refine And.intro (fun hb => ?_) (fun hb => ?_) <;> first | contradiction | ((try simp only [SB, reduceCtorEq] at hb); try (exfalso; first | contradiction | omega))) | refine G2 ?_ | rw [ints_at (by omega)] | rw [ints_at0 (by omega)] | rw [ints_at' (by omega) (by omega)] | refine G1 ?_ | fail) <;> conv => whnf)
      refine ⟨.inl rfl, ?_⟩
      conv => whnf
      refine ⟨[], ⟨rfl, trivial⟩, ?_, rfl, rfl⟩
      conv => whnf
      left
      conv => lhs; whnf
      refine congrArg AV.bool (Eq.symm (hno fun ht => ?_))
      obtain ⟨k, h1, h2, h3⟩ := hfin.2 ht.2.2
      exact hall k (by omega) ⟨h2, h3⟩
end Go.Proofs.Ythanhknkoikbfaa.Ct
namespace Go.Proofs.Ythanhknkoikbfaa.Ct
set_option linter.unusedSimpArgs false
set_option linter.unusedVariables false
open Go Go.Proofs Go.Proofs.Ythanhknkoikbfaa.Av Go.Proofs.Ythanhknkoikbfaa.Pl
def c_spec_AutoTakes : ICode := (.seq (.reg [O1 2 (.box 4) 0, O1 3 (.box 2) 1, Ol 4 .mv [cb false]]) (.seq (.drw [O1 5 (.ldn 4) 2, O1 6 (.call 38) 5, O1 7 .mv 6, Og 8 (.ldn 4) [.t 2] 7 true, Og 9 (.call 98) [.t 8] 7 true, Og 10 (.ldn 2) [.t 3] 7 true, Og 11 (.call 68) [.t 9, .t 10] 7 true, Ol 12 .pick [.t 7, .t 11, cb false], O1 4 .mv 12] (unB [0, 1, 3, 7, 15, 7, 63, 127, 255] 0) true true) .ret))
theorem b_spec_AutoTakes : Body Try.prog 40 13 c_spec_AutoTakes [(.t 4)] := body_mk Try.func40 (by kernel_rfl) (by decide)
def c_impl_AutoTakes : ICode := (.seq (.reg [O1 2 (.box 4) 0, O1 3 (.box 2) 1, Ol 4 .mv [cb false]]) (.seq (.drw [O1 5 (.ldn 4) 2, O1 6 (.call 70) 5, O1 7 .mv 6, Og 8 (.ldn 2) [.t 3] 7 true, Og 9 (.fadr 0) [.t 2] 7 true, Og 10 .ld1 [.t 9] 7 true, Og 11 (.call 85) [.t 8, .t 10] 7 true, Ol 12 .pick [.t 7, .t 11, cb false], O1 13 .mv 12, Og 14 (.fadr 1) [.t 2] 13 true, Og 15 .ld1 [.t 14] 13 true, Og 16 (.ldn 4) [.t 2] 13 true, Og 17 (.call 102) [.t 16] 13 true, Og 18 (.fld1 4) [.t 17] 13 true, Og 19 (.ldn 2) [.t 3] 13 true, Og 20 (.call 101) [.t 15, .t 18, .t 19] 13 true, Og 21 (.fadr 2) [.t 2] 13 true, Og 22 .ld1 [.t 21] 13 true, Og 23 (.call 80) [.t 22] 13 true, Og 24 (.call 118) [.t 20, .t 23, ci 1] 13 true, Ol 25 .pick [.t 13, .t 24, cb false], O1 4 .mv 25] (unB [0, 1, 3, 7, 7, 23, 63, 127, 255, 511, 1023, 511, 2559, 6655, 511, 32767, 511, 66047, 262143, 524287, 1048575, 2097151] 0) true true) .ret))
theorem b_impl_AutoTakes : Body Try.prog 39 26 c_impl_AutoTakes [(.t 4)] := body_mk Try.func39 (by kernel_rfl) (by decide)
def TakesA (a : AutoD) (s l : List Int) : Prop := AutoOk a ∧ TakesG (genOfD a) s l
theorem snap_gen2 {h h2 : Heap} {o : Nat} {g : GenD} (ho : h2 o = some (.arr 4 (gedgeRows g.edges))) : (AV.agg ((genRef o g).map (AV.snap1 h2))).snap h = .agg (genRow g) :=
  snap_agg (cells_cons rfl (cells_cons rfl (cells_cons rfl (cells_cons rfl (cells_cons (snap1_all2 ho (length_gedgeRows _)) rfl)))))
theorem snap_gv {g : GenD} : AV.snap1 (objsH [AObj.arr 4 (gedgeRows g.edges)]) (AV.ref 0 0 g.edges.length) = .val (gedgeRows g.edges) := snap1_all rfl (length_gedgeRows _)
theorem snapT_ints {l : List Int} {n : Nat} (h : (ints l).length = n) : AV.snapT (objsH [AObj.arr 1 (ints l)]) (AV.ref 0 0 n) = .val (ints l) := by
  show AV.snap (objsH [AObj.arr 1 (ints l)]) (AV.ref 0 0 n) = .val (ints l)
  exact snap_all rfl h
theorem snap_gr {h : Heap} {G : GraphD} {n m : Nat} (hn : G.length = n) : (AV.rptr (List.map (AV.snap1 (objsH [gBox 1 m, gNst G])) [AV.ref 1 0 n]) 0).snap h = .rptr [.val (gRows G)] 0 := by
  subst hn
  have e := thaw_g G
  have hl : (gOwns G).length = G.length := by simp [gOwns]
  have e1 : AV.snap1 (objsH [gBox 1 m, gNst G]) (AV.ref 1 0 G.length) = .val (gRows G) := by
    have e0 : objsH [gBox 1 m, gNst G] 1 = some (gNst G) := rfl
    simp only [AV.snap1, e0]
    rw [if_pos (by omega)]
    unfold sub
    rw [List.drop_zero, List.take_of_length_le (by omega), e]
  show AV.rptr (List.map (AV.snap1 (objsH [gBox 1 m, gNst G])) [AV.ref 1 0 G.length]) 0 = _
  rw [List.map_cons, List.map_nil, e1]
theorem RTakesG_eq {xs : List AV} {g : GenD} {s l : List Int} {b : Bool} (hx : xs = [.agg (genRow g), wordV s l]) (hb : b = true ↔ TakesG g s l) : RTakesG xs (.bool b) [] := ⟨g, s, l, b, hx, hb, rfl, rfl⟩
def RTakesA (xs : List AV) (r : AV) (objs : List AObj) : Prop := ∃ (a : AutoD) (s l : List Int) (b : Bool), xs = [.agg (autoRow a), wordV s l] ∧ (b = true ↔ TakesA a s l) ∧ r = .bool b ∧ objs = []
set_option maxHeartbeats 2000000 in
theorem s_spec_AutoTakes : PureSound Try.prog 40 RTakesA := by
  have hR : Rely Try.prog (ctxOf [(38, .pure RAutoOk), (98, .pure RGenOf), (68, .pure RTakesG)]) :=
    rely_cons b_spec_AutoOk.has s_spec_AutoOk (rely_cons b_spec_GenOf.has s_spec_GenOf (rely_cons b_spec_GenTakes.has s_spec_GenTakes (rely_nil mixed)))
  refine pure_of_aw b_spec_AutoTakes ?_
  rintro xs r objs ⟨a, s, l, b, rfl, hb0, rfl, rfl⟩ -
  refine ⟨by simp, vc2_sound hR _ _ _ _ _ ?_⟩
  by_cases ha : AutoOk a
  · have hb1 : b = true ↔ TakesG (genOfD a) s l := hb0.trans ⟨fun h => h.2, fun h => ⟨ha, h⟩⟩
    cases b
    all_goals
      conv => whnf
      repeat' ((first | contradiction | (refine And.intro (fun hb => ?_) (fun hb => ?_) <;> first | contradiction | ((try simp only [SB, reduceCtorEq] at hb); try (exfalso; first | contradiction | omega))) | refine G2 ?_ | rw [ints_at (by omega)] | rw [ints_at0 (by omega)] | rw [ints_at' (by omega) (by omega)] | refine G1 ?_ | refine ⟨_, _, RAutoOk_mk, ?_⟩ | refine ⟨_, _, RGenOf_eq rfl ha, ?_⟩ | refine ⟨_, _, RTakesG_eq (args_cons (snap_gen2 rfl) (args_cons rfl rfl)) hb1, ?_⟩ | fail) <;> conv => whnf)
      refine ⟨.inl rfl, ?_⟩
      conv => whnf
      refine ⟨[], ⟨rfl, trivial⟩, ?_, rfl, rfl⟩
      conv => whnf
      left
      conv => lhs; whnf
  · obtain rfl : b = false := Bool.eq_false_iff.2 fun h => ha (hb0.1 h).1
    conv => whnf
    repeat' ((first | contradiction | (refine And.intro (fun hb => ?_) (fun hb => ?_) <;> first | contradiction | ((try simp only [SB, reduceCtorEq] at hb); try (exfalso; first | contradiction | omega))) | refine G2 ?_ | rw [ints_at (by omega)] | rw [ints_at0 (by omega)] | rw [ints_at' (by omega) (by omega)] | refine G1 ?_ | refine ⟨_, _, RAutoOk_mk, ?_⟩ | fail) <;> conv => whnf)
    refine ⟨.inl rfl, ?_⟩
    conv => whnf
    refine ⟨[], ⟨rfl, trivial⟩, ?_, rfl, rfl⟩
    conv => whnf
    left
    conv => lhs; whnf
theorem gok_pts {g : GenD} (hg : GenOk g) {s l : List Int} (hl0 : 0 < l.length) : GOk (ptsG g.states.toNat s l g.edges) := by
  rintro p ⟨y, m⟩ hs
  rw [length_ptsG]
  obtain ⟨h1, e, he, h2, h3, h4, h5⟩ := (step_pts hg).1 hs
  have hi := gmem hg he
  unfold GIn at hi
  show y < _
  rw [h4]
  exact pt_lt (nextN_lt h1 hl0) (by omega)
theorem marks_pts {g : GenD} (hg : GenOk g) {s l : List Int} : MarksOk (ptsG g.states.toNat s l g.edges) := by
  rintro p ⟨y, m⟩ hs
  obtain ⟨h1, e, he, h2, h3, h4, h5⟩ := (step_pts hg).1 hs
  have hi := gmem hg he
  unfold GIn at hi
  subst h5
  show 0 ≤ e.marks ∧ e.marks < 2 ^ 31
  omega
theorem steps_pts {g : GenD} (hg : GenOk g) {s l : List Int} (h1 : s.length ≤ 40) (h2 : l.length ≤ 40) : steps (ptsG g.states.toNat s l g.edges) ≤ 1000000000 := by
  have hN : (s.length + l.length) * g.states.toNat ≤ 80 * 31 := Nat.mul_le_mul (by omega) (by have := hg.1.2.1; omega)
  have h := steps_mkG (n := (s.length + l.length) * g.states.toNat) (l := ptAll g.states.toNat s l g.edges (s.length + l.length))
  have h3 := ptAll_len (n := g.states.toNat) (s := s) (l := l) (es := g.edges) (s.length + l.length)
  have h4 : (s.length + l.length) * g.edges.length ≤ 80 * 2000 := Nat.mul_le_mul (by omega) hg.2.2.1
  have h5 : (s.length + l.length) * g.states.toNat * (ptAll g.states.toNat s l g.edges (s.length + l.length)).length ≤ (80 * 31) * (80 * 2000) := Nat.mul_le_mul hN (by omega)
  unfold ptsG
  omega
theorem start_pts {g : GenD} (hg : GenOk g) {s l : List Int} (hl0 : 0 < l.length) : ∀ p ∈ bitL g.start.toNat 31, p < (ptsG g.states.toNat s l g.edges).length := by
  intro p hp
  have hb := bit_lt (gstart_lt hg) (mem_bitL.1 hp).2
  rw [length_ptsG]
  have := Nat.mul_le_mul_right g.states.toNat (show 1 ≤ s.length + l.length by omega)
  omega
theorem RPoints_eq {xs : List AV} {n : Int} {es : List GEdgeD} {s l : List Int} (hx : xs = [.int .i64 n, .val (gedgeRows es), wordV s l]) (h0 : 0 ≤ n) (h1 : n ≤ 64) (h2 : es.length ≤ 2000) (h3 : EdgesIn n.toNat es) (h4 : s.length ≤ 100) (h5 : l.length ≤ 100) (h6 : 0 < l.length) :
    RPoints xs (.ptr 0 0 0) [gBox 1 ((s.length + l.length) * n.toNat), gNst (ptsG n.toNat s l es)] := ⟨n.toNat, es, s, l, by rw [hx, Int.toNat_of_nonneg h0], by omega, h2, h3, h4, h5, h6, rfl, rfl⟩
theorem edges_in {g : GenD} (hg : GenOk g) : EdgesIn g.states.toNat g.edges := fun i hi => by
  have := gin hg hi
  unfold GIn at this
  omega
theorem RLives_eq {xs : List AV} {G : GraphD} {src : List Nat} {all : Nat} {b : Bool} (hx : xs = [.rptr [.val (gRows G)] 0, .val (ints (natsI src)), .int .i64 ((all : Nat) : Int)]) (h1 : GOk G) (h2 : MarksOk G) (h3 : G.length ≤ 100000) (h4 : steps G ≤ 1000000000)
    (h5 : ∀ p ∈ src, p < G.length) (h6 : src.length ≤ 100000) (h7 : all < 2 ^ 31) (hb : b = true ↔ Lives G src all) : RLives xs (.bool b) [] := ⟨G, src, all, b, hx, h1, h2, h3, h4, h5, h6, h7, hb, rfl, rfl⟩
theorem RSetList_eq {xs : List AV} {X : Int} (hx : xs = [.int .i64 X]) (h0 : 0 ≤ X) (h : X < 2 ^ 31) : RSetList xs (.ref 0 0 (bitL X.toNat 31).length) [.arr 1 (ints (natsI (bitL X.toNat 31)))] := ⟨X.toNat, by rw [hx, Int.toNat_of_nonneg h0], by omega, rfl, rfl⟩
set_option maxHeartbeats 4000000 in
theorem s_impl_AutoTakes : PureSound Try.prog 39 RTakesA := by
  have hR : Rely Try.prog (ctxOf [(70, .pure RAutoOk), (85, .pure RWordOk), (102, .pure RGenOfI), (101, .pure RPoints), (80, .pure RSetList), (118, .pure RLives)]) :=
    rely_cons b_impl_AutoOk.has s_impl_AutoOk (rely_cons b_impl_WordOk.has s_impl_WordOk (rely_cons b_impl_genOf.has s_impl_genOf (rely_cons b_impl_pointsBy.has s_impl_pointsBy (rely_cons b_impl_SetList.has s_impl_SetList (rely_cons b_impl_graph_lives.has s_impl_lives (rely_nil mixed))))))
  refine pure_of_aw b_impl_AutoTakes ?_
  rintro xs r objs ⟨a, s, l, b, rfl, hb0, rfl, rfl⟩ -
  refine ⟨by simp, vc2_sound hR _ _ _ _ _ ?_⟩
  by_cases ha : AutoOk a
  rotate_left
  · obtain rfl : b = false := Bool.eq_false_iff.2 fun h => ha (hb0.1 h).1
    conv => whnf
    repeat' ((first | contradiction | (refine And.intro (fun hb => ?_) (fun hb => ?_) <;> first | contradiction | ((try simp only [SB, reduceCtorEq] at hb); try (exfalso; first | contradiction | omega))) | refine G2 ?_ | rw [ints_at (by omega)] | rw [ints_at0 (by omega)] | rw [ints_at' (by omega) (by omega)] | refine G1 ?_ | refine ⟨_, _, RAutoOk_mk, ?_⟩ | fail) <;> conv => whnf)
    refine ⟨.inl rfl, ?_⟩
    conv => whnf
    refine ⟨[], ⟨rfl, trivial⟩, ?_, rfl, rfl⟩
    conv => whnf
    left
    conv => lhs; whnf
  cases hw : wordOk s l a.letters
  · obtain rfl : b = false := Bool.eq_false_iff.2 fun h => by
      have := (hb0.1 h).2.2.1
      rw [show (genOfD a).letters = a.letters from rfl, hw] at this
      cases this
    conv => whnf
    repeat' ((first | contradiction | (refine And.intro (fun hb => ?_) (fun hb => ?_) <;> first | contradiction | ((try simp only [SB, reduceCtorEq] at hb); try (exfalso; first | contradiction | omega))) | refine G2 ?_ | rw [ints_at (by omega)] | rw [ints_at0 (by omega)] | rw [ints_at' (by omega) (by omega)] | refine G1 ?_ | refine ⟨_, _, RAutoOk_mk, ?_⟩ | refine ⟨_, _, ⟨s, l, a.letters, rfl, congrArg AV.bool hw.symm, rfl⟩, ?_⟩ | fail) <;> conv => whnf)
    refine ⟨.inl rfl, ?_⟩
    conv => whnf
    refine ⟨[], ⟨rfl, trivial⟩, ?_, rfl, rfl⟩
    conv => whnf
    left
    conv => lhs; whnf
  have hg := genOf_ok ha
  obtain ⟨hlo, hs, hl, hl0⟩ := let_ok hw
  have hst := ha.1.2.1
  have hsr := ha.1.2.2
  have hb1 : b = true ↔ Lives (ptsG a.states.toNat s l (genOfD a).edges) (bitL a.start.toNat 31) 1 := hb0.trans ⟨fun h => h.2.2.2, fun h => ⟨ha, hg, hw, h⟩⟩
  have g1 : GOk (ptsG a.states.toNat s l (genOfD a).edges) := gok_pts hg hl0
  have g2 : MarksOk (ptsG a.states.toNat s l (genOfD a).edges) := marks_pts hg
  have g3 : (ptsG a.states.toNat s l (genOfD a).edges).length = (s.length + l.length) * a.states.toNat := length_ptsG
  have g4 : steps (ptsG a.states.toNat s l (genOfD a).edges) ≤ 1000000000 := steps_pts hg hs hl
  have g5 : ∀ p ∈ bitL a.start.toNat 31, p < (ptsG a.states.toNat s l (genOfD a).edges).length := start_pts hg hl0
  have g6 : EdgesIn a.states.toNat (genOfD a).edges := edges_in hg
  have g7 := hg.2.2.1
  have g8 : (bitL a.start.toNat 31).length ≤ 31 := bitL_len
  have hNN : (s.length + l.length) * a.states.toNat ≤ 80 * 31 := Nat.mul_le_mul (by omega) (by omega)
  have hgl := length_gedgeRows (genOfD a).edges
  have hbl : (ints (natsI (bitL a.start.toNat 31))).length = (bitL a.start.toNat 31).length := by simp [ints]
  cases b
  all_goals
    conv => whnf
    repeat' ((first | contradiction | (refine And.intro (fun hb => ?_) (fun hb => ?_) <;> first | contradiction | ((try simp only [SB, reduceCtorEq] at hb); try (exfalso; first | contradiction | omega))) | rw [snap_gv] | rw [snapT_ints hbl] | refine G2 ?_ | rw [ints_at (by omega)] | rw [ints_at0 (by omega)] | rw [ints_at' (by omega) (by omega)] | refine G1 ?_ | refine ⟨_, _, RAutoOk_mk, ?_⟩ | refine ⟨_, _, ⟨s, l, a.letters, rfl, congrArg AV.bool hw.symm, rfl⟩, ?_⟩ | refine ⟨_, _, RGenOfI_eq rfl ha, ?_⟩ | refine ⟨_, _, RPoints_eq (s := s) (l := l) (args_cons rfl (args_cons rfl (args_cons rfl rfl))) (by omega) (by omega) g7 g6 (by omega) (by omega) hl0, ?_⟩ | refine ⟨_, _, RSetList_eq rfl (by omega) (by omega), ?_⟩ | refine ⟨_, _, RLives_eq (args_cons (snap_gr g3) (args_cons rfl (args_cons rfl rfl))) g1 g2 (by omega) g4 g5 (by omega) (by decide) hb1, ?_⟩ | fail) <;> conv => whnf)
    refine ⟨.inl rfl, ?_⟩
    conv => whnf
    refine ⟨[], ⟨rfl, trivial⟩, ?_, rfl, rfl⟩
    conv => whnf
    left
    conv => lhs; whnf
end Go.Proofs.Ythanhknkoikbfaa.Ct
namespace Go.Proofs.Ythanhknkoikbfaa.Ct
set_option linter.unusedSimpArgs false
set_option linter.unusedVariables false
open Go Go.Proofs Go.Proofs.Ythanhknkoikbfaa.Av
def marks (k : Int) (n : Nat) : List Int := (List.range n).map fun i => k + (i : Nat)
@[simp] theorem length_marks (k : Int) (n : Nat) : (marks k n).length = n := by simp [marks]
end Go.Proofs.Ythanhknkoikbfaa.Ct
namespace Go.Proofs.Ythanhknkoikbfaa.Ct
set_option linter.unusedSimpArgs false
set_option linter.unusedVariables false
open Go Go.Proofs Go.Proofs.Ythanhknkoikbfaa.Av
def resR (c : Int) (w : List Int × List Int) : AV := .agg [.int .i64 c, .ref 0 0 w.1.length, .ref 1 0 w.2.length]
def resO (w : List Int × List Int) : List AObj := [.arr 1 (ints w.1), .arr 1 (ints w.2)]
/-! ### the laws' helpers -/
end Go.Proofs.Ythanhknkoikbfaa.Ct
namespace Go.Proofs.Ythanhknkoikbfaa.Ct
set_option linter.unusedSimpArgs false
set_option linter.unusedVariables false
open Go Go.Proofs Go.Proofs.Ythanhknkoikbfaa.Av Go.Proofs.Ythanhknkoikbfaa.Pl
def c_slices_Clone_int_int : ICode := (.seq (.reg [Ol 2 .mv [.c .snil]]) (.seq (.seq (.reg [O1 3 .mv 0, O1 4 (.bnil false) 3]) (.cond (.t 4) (.seq (.reg [Ol 2 .mv [.c .snil]]) .ret) .skip)) (.seq (.reg [O0 5 .bsle, O1 6 .mv 0, O2 7 (.app 1 8) 5 6, O1 2 .mv 7]) .ret)))
theorem b_slices_Clone_int_int : Body Try.prog 128 8 c_slices_Clone_int_int [(.t 2)] := body_mk Try.func128 (by kernel_rfl) (by decide)
def c_impl_copyWord : ICode := (.seq (.reg [O1 1 (.box 2) 0, O0 2 (.alc [.snil, .snil])]) (.seq (.drw [O1 3 (.fadr 0) 1, O1 4 .ld1 3, O1 5 (.call 128) 4, O1 6 (.fadr 1) 1, O1 7 .ld1 6, O1 8 (.call 128) 7, O2 9 (.bld [.snil, .snil] [(0, 1), (1, 1)]) 5 8, S2 (.st 2) 2 9] (unB [0, 1, 3, 0, 8, 31, 63, 127] 0) true true) .ret))
theorem b_impl_copyWord : Body Try.prog 86 10 c_impl_copyWord [(.cn 2 2)] := body_mk Try.func86 (by kernel_rfl) (by decide)
def c_spec_l16Word : ICode := (.seq (.reg [O1 1 (.box 2) 0, O0 2 (.alc [.snil, .snil])]) (.seq (.drw [O0 3 .bsle, O1 4 (.fadr 0) 1, O1 5 .ld1 4, O2 6 (.app 1 8) 3 5, O0 7 .bsle, O1 8 (.fadr 1) 1, O1 9 .ld1 8, O2 10 (.app 1 8) 7 9, O2 11 (.bld [.snil, .snil] [(0, 1), (1, 1)]) 6 10, S2 (.st 2) 2 11] (unB [0, 0, 2, 7, 0, 0, 32, 127, 255, 511] 0) false true) .ret))
theorem b_spec_l16Word : Body Try.prog 83 12 c_spec_l16Word [(.cn 2 2)] := body_mk Try.func83 (by kernel_rfl) (by decide)
def c_spec_AskHas : ICode := (.seq (.reg [O1 2 (.box 4) 0, O1 3 (.box 2) 1, O0 4 (.alc [(.int .i64 0), .snil, .snil])]) (.seq (.block 0 (.seq (.reg [O1 6 (.ldn 4) 2, O1 7 (.call 38) 6, O1 8 .not 7, O1 9 .mv 8, Og 10 (.ldn 2) [.t 3] 9 false, Og 11 (.fadr 0) [.t 2] 9 false, Og 12 .ld1 [.t 11] 9 false, Og 13 (.call 47) [.t 10, .t 12] 9 false, Og 14 .not [.t 13] 9 false, Ol 15 .pick [.t 9, cb true, .t 14], O1 5 .mv 15]) (.cond (.t 5) (.seq (.reg [Ol 16 (.bld [(.int .i64 0), .snil, .snil] [(0, 1)]) [ci 4], S2 (.st 3) 4 16]) .ret) (.seq (.reg [O1 18 (.ldn 4) 2, O1 19 (.ldn 2) 3, O2 20 (.call 40) 18 19, O1 17 .mv 20]) (.cond (.t 17) (.seq (.reg [O1 21 (.ldn 2) 3, O1 22 (.call 83) 21, Ol 23 (.bld [(.int .i64 0), .snil, .snil] [(0, 1), (1, 2)]) [ci 1, .t 22], S2 (.st 3) 4 23]) .ret) .skip))))) (.seq (.reg [O1 24 (.ldn 2) 3, O1 25 (.call 83) 24, Ol 26 (.bld [(.int .i64 0), .snil, .snil] [(0, 1), (1, 2)]) [ci 2, .t 25], S2 (.st 3) 4 26]) .ret)))
theorem b_spec_AskHas : Body Try.prog 19 27 c_spec_AskHas [(.cn 4 3)] := body_mk Try.func19 (by kernel_rfl) (by decide)
def c_impl_AskHas : ICode := (.seq (.reg [O1 2 (.box 4) 0, O1 3 (.box 2) 1, O0 4 (.alc [(.int .i64 0), .snil, .snil])]) (.seq (.block 0 (.seq (.reg [O1 6 (.ldn 4) 2, O1 7 (.call 70) 6, O1 8 .not 7, O1 9 .mv 8, Og 10 (.ldn 2) [.t 3] 9 false, Og 11 (.fadr 0) [.t 2] 9 false, Og 12 .ld1 [.t 11] 9 false, Og 13 (.call 85) [.t 10, .t 12] 9 false, Og 14 .not [.t 13] 9 false, Ol 15 .pick [.t 9, cb true, .t 14], O1 5 .mv 15]) (.cond (.t 5) (.seq (.reg [Ol 16 (.bld [(.int .i64 0), .snil, .snil] [(0, 1)]) [ci 4], S2 (.st 3) 4 16]) .ret) (.seq (.reg [O1 18 (.ldn 4) 2, O1 19 (.ldn 2) 3, O2 20 (.call 39) 18 19, O1 17 .mv 20]) (.cond (.t 17) (.seq (.reg [O1 21 (.ldn 2) 3, O1 22 (.call 86) 21, Ol 23 (.bld [(.int .i64 0), .snil, .snil] [(0, 1), (1, 2)]) [ci 1, .t 22], S2 (.st 3) 4 23]) .ret) .skip))))) (.seq (.reg [O1 24 (.ldn 2) 3, O1 25 (.call 86) 24, Ol 26 (.bld [(.int .i64 0), .snil, .snil] [(0, 1), (1, 2)]) [ci 2, .t 25], S2 (.st 3) 4 26]) .ret)))
theorem b_impl_AskHas : Body Try.prog 21 27 c_impl_AskHas [(.cn 4 3)] := body_mk Try.func21 (by kernel_rfl) (by decide)
theorem ints_w {l : List Int} : ∀ r ∈ ints l, r.length = 1 := by
  intro r hr
  obtain ⟨x, _, rfl⟩ := List.mem_map.1 hr
  rfl
def RCloneI (xs : List AV) (r : AV) (objs : List AObj) : Prop := ∃ l, xs = [.val (ints l)] ∧ l.length ≤ 1048576 ∧ r = .ref 0 0 l.length ∧ objs = [.arr 1 (ints l)]
theorem RCloneI_eq {xs : List AV} {l : List Int} (hx : xs = [.val (ints l)]) (h : l.length ≤ 1048576) : RCloneI xs (.ref 0 0 l.length) [.arr 1 (ints l)] := ⟨l, hx, h, rfl, rfl⟩
theorem s_slices_CloneI : PureSound Try.prog 128 RCloneI := by
  have hR : Rely Try.prog (ctxOf []) := rely_nil mixed
  refine pure_of_aw b_slices_Clone_int_int ?_
  rintro xs r objs ⟨l, rfl, h1, rfl, rfl⟩ -
  have hle := length_ints l
  refine ⟨by simp, vc2_sound hR _ _ _ _ _ ?_⟩
  conv => whnf
  repeat' ((first | contradiction | (refine And.intro (fun hb => ?_) (fun hb => ?_) <;> first | contradiction | ((try simp only [SB, reduceCtorEq] at hb); try (exfalso; first | contradiction | omega))) | refine G2 ?_ | rw [ints_at (by omega)] | rw [ints_at0 (by omega)] | rw [ints_at' (by omega) (by omega)] | refine G1 ?_ | refine And.intro ints_w ?_ | fail) <;> conv => whnf)
  · have hl : l = [] := by simpa [ints] using hb
    subst hl
    refine ⟨.inl rfl, ?_⟩
    conv => whnf
    exact ⟨[none], ⟨rfl, And.intro rfl trivial⟩, ⟨rfl, rfl, rfl⟩, rfl, rfl⟩
  · refine ⟨.inl rfl, ?_⟩
    conv => whnf
    exact ⟨[some 0], ⟨rfl, And.intro (And.intro rfl rfl) trivial⟩, congrArg (AV.ref 0 0) hle, rfl, by simp [AObj.nov, ints_nov]⟩
def RCopyW (xs : List AV) (r : AV) (objs : List AObj) : Prop := ∃ s l, xs = [wordV s l] ∧ s.length ≤ 1048576 ∧ l.length ≤ 1048576 ∧ r = .agg [.ref 0 0 s.length, .ref 1 0 l.length] ∧ objs = [.arr 1 (ints s), .arr 1 (ints l)]
theorem RCopyW_eq {xs : List AV} {s l : List Int} (hx : xs = [wordV s l]) (h1 : s.length ≤ 1048576) (h2 : l.length ≤ 1048576) : RCopyW xs (.agg [.ref 0 0 s.length, .ref 1 0 l.length]) [.arr 1 (ints s), .arr 1 (ints l)] := ⟨s, l, hx, h1, h2, rfl, rfl⟩
theorem s_impl_copyWord : PureSound Try.prog 86 RCopyW := by
  have hR : Rely Try.prog (ctxOf [(128, .pure RCloneI)]) := rely_cons b_slices_Clone_int_int.has s_slices_CloneI (rely_nil mixed)
  refine pure_of_aw b_impl_copyWord ?_
  rintro xs r objs ⟨s, l, rfl, h1, h2, rfl, rfl⟩ -
  have hV : CtxNV (ctxOf [(128, .pure RCloneI)]) := nv_pure nvNil
  refine ⟨by simp, vc3_sound hR hV _ _ _ _ _ ?_⟩
  conv => whnf
  repeat' ((first | contradiction | (refine And.intro (fun hb => ?_) (fun hb => ?_) <;> first | contradiction | ((try simp only [SB, reduceCtorEq] at hb); try (exfalso; first | contradiction | omega))) | refine G2 ?_ | rw [ints_at (by omega)] | rw [ints_at0 (by omega)] | rw [ints_at' (by omega) (by omega)] | refine G1 ?_ | refine ⟨_, _, RCloneI_eq (l := s) rfl h1, ?_⟩ | refine ⟨_, _, RCloneI_eq (l := l) rfl h2, ?_⟩ | fail) <;> conv => whnf)
  refine ⟨.inl rfl, ?_⟩
  conv => whnf
  exact ⟨Nat.le_refl 2, [some 2, some 3], ⟨rfl, And.intro (And.intro rfl rfl) (And.intro (And.intro rfl rfl) trivial)⟩, ⟨rfl, rfl, trivial⟩, rfl, by simp [AObj.nov, ints_nov]⟩
theorem s_spec_l16Word : PureSound Try.prog 83 RCopyW := by
  have hR : Rely Try.prog (ctxOf []) := rely_nil mixed
  refine pure_of_aw b_spec_l16Word ?_
  rintro xs r objs ⟨s, l, rfl, h1, h2, rfl, rfl⟩ -
  have hs := length_ints s
  have hl := length_ints l
  refine ⟨by simp, vc3_sound hR nvNil _ _ _ _ _ ?_⟩
  conv => whnf
  repeat' ((first | contradiction | (refine And.intro (fun hb => ?_) (fun hb => ?_) <;> first | contradiction | ((try simp only [SB, reduceCtorEq] at hb); try (exfalso; first | contradiction | omega))) | refine G2 ?_ | rw [ints_at (by omega)] | rw [ints_at0 (by omega)] | rw [ints_at' (by omega) (by omega)] | refine G1 ?_ | refine And.intro ints_w ?_ | fail) <;> conv => whnf)
  refine ⟨.inl rfl, ?_⟩
  conv => whnf
  exact ⟨Nat.le_refl 2, [some 2, some 3], ⟨rfl, And.intro (And.intro rfl rfl) (And.intro (And.intro rfl rfl) trivial)⟩, ⟨by rw [hs]; exact rfl, by rw [hl]; exact rfl, trivial⟩, rfl, by simp [AObj.nov, ints_nov]⟩
theorem RTakesA_is {xs : List AV} {a : AutoD} {s l : List Int} {b : Bool} (hx : xs = [.agg (autoRow a), wordV s l]) (h : b = true ↔ TakesA a s l) : RTakesA xs (.bool b) [] := ⟨a, s, l, b, hx, h, rfl, rfl⟩
theorem RWordOk_is {xs : List AV} {s l : List Int} {n : Int} {b : Bool} (hx : xs = [word s l, .int .i64 n]) (h : wordOk s l n = b) : RWordOk xs (.bool b) [] := ⟨s, l, n, hx, by rw [h], rfl⟩
theorem RAutoOk_is {xs : List AV} {a : AutoD} {b : Bool} (hx : xs = [.agg (autoRow a)]) (h : decide (AutoOk a) = b) : RAutoOk xs (.bool b) [] := ⟨a, hx, by rw [h], rfl⟩
open Classical in
noncomputable def sayH (a : AutoD) (s l : List Int) : Int × (List Int × List Int) := if AutoOk a ∧ wordOk s l a.letters = true then (if TakesA a s l then 1 else 2, (s, l)) else (4, ([], []))
def RHasA (xs : List AV) (r : AV) (objs : List AObj) : Prop := ∃ a s l, xs = [.agg (autoRow a), wordV s l] ∧ s.length ≤ 1048576 ∧ l.length ≤ 1048576 ∧ r = resR (sayH a s l).1 (sayH a s l).2 ∧ objs = resO (sayH a s l).2
theorem RHasA_eq {xs : List AV} {a : AutoD} {s l : List Int} (hx : xs = [.agg (autoRow a), wordV s l]) (h1 : s.length ≤ 1048576) (h2 : l.length ≤ 1048576) : RHasA xs (resR (sayH a s l).1 (sayH a s l).2) (resO (sayH a s l).2) := ⟨a, s, l, hx, h1, h2, rfl, rfl⟩
open Classical in
set_option maxHeartbeats 2000000 in
theorem s_spec_AskHas : PureSound Try.prog 19 RHasA := by
  have hR : Rely Try.prog (ctxOf [(38, .pure RAutoOk), (47, .pure RWordOk), (40, .pure RTakesA), (83, .pure RCopyW)]) :=
    rely_cons b_spec_AutoOk.has s_spec_AutoOk (rely_cons b_spec_WordOk.has s_spec_WordOk (rely_cons b_spec_AutoTakes.has s_spec_AutoTakes (rely_cons b_spec_l16Word.has s_spec_l16Word (rely_nil mixed))))
  refine pure_of_aw b_spec_AskHas ?_
  rintro xs r objs ⟨a, s, l, rfl, h1, h2, rfl, rfl⟩ -
  refine ⟨by simp, vc2_sound hR _ _ _ _ _ ?_⟩
  unfold sayH
  by_cases hA : AutoOk a
  · have hA' : decide (AutoOk a) = true := decide_eq_true hA
    cases hw : wordOk s l a.letters with
    | true =>
      rw [if_pos ⟨hA, rfl⟩]
      by_cases hT : TakesA a s l
      · rw [if_pos hT]
        conv => whnf
        repeat' ((first | contradiction | (refine And.intro (fun hb => ?_) (fun hb => ?_) <;> first | contradiction | ((try simp only [SB, reduceCtorEq] at hb); try (exfalso; first | contradiction | omega))) | refine G2 ?_ | rw [ints_at (by omega)] | rw [ints_at0 (by omega)] | rw [ints_at' (by omega) (by omega)] | refine G1 ?_ | refine ⟨_, _, RAutoOk_is rfl hA', ?_⟩ | refine ⟨_, _, RWordOk_is rfl hw, ?_⟩ | refine ⟨_, _, RTakesA_is (b := true) rfl ⟨fun _ => hT, fun _ => rfl⟩, ?_⟩ | refine ⟨_, _, RCopyW_eq rfl h1 h2, ?_⟩ | fail) <;> conv => whnf)
        refine ⟨.inl rfl, ?_⟩
        conv => whnf
        exact ⟨Nat.le_refl 3, [some 3, some 4], ⟨rfl, And.intro (And.intro rfl rfl) (And.intro (And.intro rfl rfl) trivial)⟩, ⟨.inl rfl, rfl, rfl, trivial⟩, rfl, by simp [resO, AObj.nov, ints_nov]⟩
      · rw [if_neg hT]
        conv => whnf
        repeat' ((first | contradiction | (refine And.intro (fun hb => ?_) (fun hb => ?_) <;> first | contradiction | ((try simp only [SB, reduceCtorEq] at hb); try (exfalso; first | contradiction | omega))) | refine G2 ?_ | rw [ints_at (by omega)] | rw [ints_at0 (by omega)] | rw [ints_at' (by omega) (by omega)] | refine G1 ?_ | refine ⟨_, _, RAutoOk_is rfl hA', ?_⟩ | refine ⟨_, _, RWordOk_is rfl hw, ?_⟩ | refine ⟨_, _, RTakesA_is (b := false) rfl ⟨fun h => (by cases h), fun h => absurd h hT⟩, ?_⟩ | refine ⟨_, _, RCopyW_eq rfl h1 h2, ?_⟩ | fail) <;> conv => whnf)
        refine ⟨.inl rfl, ?_⟩
        conv => whnf
        exact ⟨Nat.le_refl 3, [some 3, some 4], ⟨rfl, And.intro (And.intro rfl rfl) (And.intro (And.intro rfl rfl) trivial)⟩, ⟨.inl rfl, rfl, rfl, trivial⟩, rfl, by simp [resO, AObj.nov, ints_nov]⟩
    | false =>
      rw [if_neg (fun h => by cases h.2)]
      conv => whnf
      repeat' ((first | contradiction | (refine And.intro (fun hb => ?_) (fun hb => ?_) <;> first | contradiction | ((try simp only [SB, reduceCtorEq] at hb); try (exfalso; first | contradiction | omega))) | refine G2 ?_ | rw [ints_at (by omega)] | rw [ints_at0 (by omega)] | rw [ints_at' (by omega) (by omega)] | refine G1 ?_ | refine ⟨_, _, RAutoOk_is rfl hA', ?_⟩ | refine ⟨_, _, RWordOk_is rfl hw, ?_⟩ | fail) <;> conv => whnf)
      refine ⟨.inl rfl, ?_⟩
      conv => whnf
      exact ⟨Nat.le_refl 3, [none, none], ⟨rfl, And.intro rfl (And.intro rfl trivial)⟩, ⟨.inl rfl, ⟨rfl, rfl, rfl⟩, ⟨rfl, rfl, rfl⟩, trivial⟩, rfl, rfl⟩
  · have hA' : decide (AutoOk a) = false := decide_eq_false hA
    rw [if_neg (fun h => hA h.1)]
    conv => whnf
    repeat' ((first | contradiction | (refine And.intro (fun hb => ?_) (fun hb => ?_) <;> first | contradiction | ((try simp only [SB, reduceCtorEq] at hb); try (exfalso; first | contradiction | omega))) | refine G2 ?_ | rw [ints_at (by omega)] | rw [ints_at0 (by omega)] | rw [ints_at' (by omega) (by omega)] | refine G1 ?_ | refine ⟨_, _, RAutoOk_is rfl hA', ?_⟩ | fail) <;> conv => whnf)
    refine ⟨.inl rfl, ?_⟩
    conv => whnf
    exact ⟨Nat.le_refl 3, [none, none], ⟨rfl, And.intro rfl (And.intro rfl trivial)⟩, ⟨.inl rfl, ⟨rfl, rfl, rfl⟩, ⟨rfl, rfl, rfl⟩, trivial⟩, rfl, rfl⟩
open Classical in
set_option maxHeartbeats 2000000 in
theorem s_impl_AskHas : PureSound Try.prog 21 RHasA := by
  have hR : Rely Try.prog (ctxOf [(70, .pure RAutoOk), (85, .pure RWordOk), (39, .pure RTakesA), (86, .pure RCopyW)]) :=
    rely_cons b_impl_AutoOk.has s_impl_AutoOk (rely_cons b_impl_WordOk.has s_impl_WordOk (rely_cons b_impl_AutoTakes.has s_impl_AutoTakes (rely_cons b_impl_copyWord.has s_impl_copyWord (rely_nil mixed))))
  refine pure_of_aw b_impl_AskHas ?_
  rintro xs r objs ⟨a, s, l, rfl, h1, h2, rfl, rfl⟩ -
  refine ⟨by simp, vc2_sound hR _ _ _ _ _ ?_⟩
  unfold sayH
  by_cases hA : AutoOk a
  · have hA' : decide (AutoOk a) = true := decide_eq_true hA
    cases hw : wordOk s l a.letters with
    | true =>
      rw [if_pos ⟨hA, rfl⟩]
      by_cases hT : TakesA a s l
      · rw [if_pos hT]
        conv => whnf
        repeat' ((first | contradiction | (refine And.intro (fun hb => ?_) (fun hb => ?_) <;> first | contradiction | ((try simp only [SB, reduceCtorEq] at hb); try (exfalso; first | contradiction | omega))) | refine G2 ?_ | rw [ints_at (by omega)] | rw [ints_at0 (by omega)] | rw [ints_at' (by omega) (by omega)] | refine G1 ?_ | refine ⟨_, _, RAutoOk_is rfl hA', ?_⟩ | refine ⟨_, _, RWordOk_is rfl hw, ?_⟩ | refine ⟨_, _, RTakesA_is (b := true) rfl ⟨fun _ => hT, fun _ => rfl⟩, ?_⟩ | refine ⟨_, _, RCopyW_eq rfl h1 h2, ?_⟩ | fail) <;> conv => whnf)
        refine ⟨.inl rfl, ?_⟩
        conv => whnf
        exact ⟨Nat.le_refl 3, [some 3, some 4], ⟨rfl, And.intro (And.intro rfl rfl) (And.intro (And.intro rfl rfl) trivial)⟩, ⟨.inl rfl, rfl, rfl, trivial⟩, rfl, by simp [resO, AObj.nov, ints_nov]⟩
      · rw [if_neg hT]
        conv => whnf
        repeat' ((first | contradiction | (refine And.intro (fun hb => ?_) (fun hb => ?_) <;> first | contradiction | ((try simp only [SB, reduceCtorEq] at hb); try (exfalso; first | contradiction | omega))) | refine G2 ?_ | rw [ints_at (by omega)] | rw [ints_at0 (by omega)] | rw [ints_at' (by omega) (by omega)] | refine G1 ?_ | refine ⟨_, _, RAutoOk_is rfl hA', ?_⟩ | refine ⟨_, _, RWordOk_is rfl hw, ?_⟩ | refine ⟨_, _, RTakesA_is (b := false) rfl ⟨fun h => (by cases h), fun h => absurd h hT⟩, ?_⟩ | refine ⟨_, _, RCopyW_eq rfl h1 h2, ?_⟩ | fail) <;> conv => whnf)
        refine ⟨.inl rfl, ?_⟩
        conv => whnf
        exact ⟨Nat.le_refl 3, [some 3, some 4], ⟨rfl, And.intro (And.intro rfl rfl) (And.intro (And.intro rfl rfl) trivial)⟩, ⟨.inl rfl, rfl, rfl, trivial⟩, rfl, by simp [resO, AObj.nov, ints_nov]⟩
    | false =>
      rw [if_neg (fun h => by cases h.2)]
      conv => whnf
      repeat' ((first | contradiction | (refine And.intro (fun hb => ?_) (fun hb => ?_) <;> first | contradiction | ((try simp only [SB, reduceCtorEq] at hb); try (exfalso; first | contradiction | omega))) | refine G2 ?_ | rw [ints_at (by omega)] | rw [ints_at0 (by omega)] | rw [ints_at' (by omega) (by omega)] | refine G1 ?_ | refine ⟨_, _, RAutoOk_is rfl hA', ?_⟩ | refine ⟨_, _, RWordOk_is rfl hw, ?_⟩ | fail) <;> conv => whnf)
      refine ⟨.inl rfl, ?_⟩
      conv => whnf
      exact ⟨Nat.le_refl 3, [none, none], ⟨rfl, And.intro rfl (And.intro rfl trivial)⟩, ⟨.inl rfl, ⟨rfl, rfl, rfl⟩, ⟨rfl, rfl, rfl⟩, trivial⟩, rfl, rfl⟩
  · have hA' : decide (AutoOk a) = false := decide_eq_false hA
    rw [if_neg (fun h => hA h.1)]
    conv => whnf
    repeat' ((first | contradiction | (refine And.intro (fun hb => ?_) (fun hb => ?_) <;> first | contradiction | ((try simp only [SB, reduceCtorEq] at hb); try (exfalso; first | contradiction | omega))) | refine G2 ?_ | rw [ints_at (by omega)] | rw [ints_at0 (by omega)] | rw [ints_at' (by omega) (by omega)] | refine G1 ?_ | refine ⟨_, _, RAutoOk_is rfl hA', ?_⟩ | fail) <;> conv => whnf)
    refine ⟨.inl rfl, ?_⟩
    conv => whnf
    exact ⟨Nat.le_refl 3, [none, none], ⟨rfl, And.intro rfl (And.intro rfl trivial)⟩, ⟨.inl rfl, ⟨rfl, rfl, rfl⟩, ⟨rfl, rfl, rfl⟩, trivial⟩, rfl, rfl⟩
end Go.Proofs.Ythanhknkoikbfaa.Ct
namespace Go.Proofs.Ythanhknkoikbfaa.Ct
set_option linter.unusedSimpArgs false
set_option linter.unusedVariables false
open Go Go.Proofs Go.Proofs.Ythanhknkoikbfaa.Av
def c_spec_l6DrawTaken : ICode := (.seq (.reg [O0 4 (.alc [(.int .i64 0), (.int .i64 0), (.int .i64 0), .snil]), O0 5 (.alc [.snil, .snil])]) (.seq (.reg [O1 9 .mv 0, O1 10 .mv 1, O2 11 (.call 138) 9 10, O0 6 (.alc [(.int .i64 0), (.int .i64 0), (.int .i64 0), .snil]), S2 (.st 4) 6 11]) (.seq (.seq (.reg [O1 12 (.ldn 4) 6, O1 13 (.call 38) 12, O1 14 .not 13]) (.cond (.t 14) (.seq (.drw [O1 15 (.ldn 4) 6, O1 16 .mv 0, O1 17 (.call 147) 16, S2 (.st 4) 4 15, S2 (.st 2) 5 17] (unB [0, 0, 2, 7, 15] 0) true true) .ret) .skip)) (.seq (.reg [O1 18 .mv 0, O1 19 (.fadr 0) 6, O1 20 .ld1 19, O2 21 (.call 148) 18 20, O0 7 (.alc [.snil, .snil]), S2 (.st 2) 7 21]) (.seq (.seq (.reg [Ol 8 .mv [ci 0]]) (.block 0 (.loop (.seq (.seq (.reg [O1 22 .mv 8, Ol 23 (.bin .lss) [.t 22, ci 4], O1 24 .mv 23, Og 25 (.ldn 4) [.t 6] 24 true, Og 26 (.ldn 2) [.t 7] 24 true, Og 27 (.call 40) [.t 25, .t 26] 24 true, Og 28 .not [.t 27] 24 true, Ol 29 .pick [.t 24, .t 28, cb false], O1 30 .mv 29, Og 31 .mv [.t 0] 30 true, Og 32 (.call 139) [.t 31, ci 3] 30 true, Og 33 .not [.t 32] 30 true, Ol 34 .pick [.t 30, .t 33, cb false]]) (.cond (.t 34) .skip (.exit 0))) (.seq (.block 1 (.reg [O1 37 .mv 0, O1 38 (.fadr 0) 6, O1 39 .ld1 38, O2 40 (.call 148) 37 39, S2 (.st 2) 7 40])) (.reg [O1 35 .mv 8, Ol 36 (.bin .add) [.t 35, ci 1], O1 8 .mv 36])))))) (.seq (.seq (.reg [O1 41 .mv 0, Ol 42 (.call 139) [.t 41, ci 15]]) (.cond (.t 42) (.reg [O1 43 .mv 0, O1 44 (.call 147) 43, S2 (.st 2) 7 44]) .skip)) (.seq (.drw [O1 45 (.ldn 4) 6, O1 46 (.ldn 2) 7, S2 (.st 4) 4 45, S2 (.st 2) 5 46] (unB [0, 0, 1, 7] 0) false true) .ret)))))))
theorem b_spec_l6DrawTaken : Body Try.prog 109 47 c_spec_l6DrawTaken [(.cn 4 4), (.cn 5 2)] := body_mk Try.func109 (by kernel_rfl) (by decide)
theorem snap_woT {h : Heap} {i j n m : Nat} {s l : List Int} (hi : h i = some (.arr 1 (ints s))) (hj : h j = some (.arr 1 (ints l))) (hn : s.length = n) (hm : l.length = m) : (AV.agg [.ref i 0 n, .ref j 0 m]).snap h = wordV s l :=
  snap_agg (cells_cons (snap1_all hi (by rw [length_ints, hn])) (cells_cons (snap1_all hj (by rw [length_ints, hm])) rfl))
theorem GDrawWord_nv (xs : List AV) (objs : List AObj) (Q : AV → List (Option AObj) → Prop) (h : GDrawWord xs objs Q) : ∃ r out, Q r out := by
  obtain ⟨code, i, h, _, _, _, _, hq⟩ := h
  exact ⟨_, _, hq [] [] 0 0 (by simp) (by simp) (Nat.zero_le _)⟩
theorem GDrawAuto_nv (xs : List AV) (objs : List AObj) (Q : AV → List (Option AObj) → Prop) (h : GDrawAuto xs objs Q) : ∃ r out, Q r out := by
  obtain ⟨code, i, h, n, _, _, _, _, _, hq⟩ := h
  exact ⟨_, _, hq zeroAuto 0 0 (by simp [zeroAuto]) (Nat.zero_le _)⟩
def takenR (o : Nat) (a : AutoD) (s l : List Int) : AV := .tup [.agg (autoRef o a), .agg [.ref (o + 1) 0 s.length, .ref (o + 2) 0 l.length]]
def GTaken : GFun := fun xs objs Q => ∃ (code : List UInt8) (i : Nat) (h n : Int), xs = [.ptr 0 0 0, .int .i64 n] ∧ objs = [curO code i h] ∧ i ≤ code.length ∧ code.length ≤ 1048576 ∧ (1 ≤ n ∧ n ≤ 30) ∧
  ∀ (a : AutoD) (s l : List Int) (i' : Nat) (h' : Int), a.edges.length ≤ 7689 → s.length ≤ 201 → l.length ≤ 201 → i' ≤ code.length → Q (takenR 1 a s l) [some (curO code i' h'), some (.arr 4 (edgeRows a.edges)), some (.arr 1 (ints s)), some (.arr 1 (ints l))]
abbrev takL (_ : List Int × List Int × Nat × Int) : List (Nat × AV) := [(0, .ptr 0 0 0), (4, .ptr 1 0 0), (5, .ptr 2 0 0), (6, .ptr 3 0 0), (7, .ptr 5 0 0)]
abbrev takO (code : List UInt8) (a : AutoD) (c : List Int × List Int × Nat × Int) : List (Option AObj) :=
  [some (curO code c.2.2.1 c.2.2.2), some (.box [.int .i64 0, .int .i64 0, .int .i64 0, .snil]), some (.box [.snil, .snil]), some (.box (autoRef 4 a)), some (.arr 4 (edgeRows a.edges)), some (.box [.ref 6 0 c.1.length, .ref 7 0 c.2.1.length]), some (.arr 1 (ints c.1)), some (.arr 1 (ints c.2.1))]
abbrev takI (code : List UInt8) (B : Nat) (c : List Int × List Int × Nat × Int) : Prop := c.1.length ≤ B ∧ c.2.1.length ≤ B ∧ c.2.2.1 ≤ code.length
open Classical in
set_option maxHeartbeats 4000000 in
theorem s_spec_l6DrawTaken : GenSound Try.prog 109 1 GTaken := by
  have hR : Rely Try.prog (ctxOf [(139, .gen 1 GOnce), (138, .gen 1 GDrawAuto), (148, .gen 1 GDrawRight), (147, .gen 1 GDrawWord), (38, .pure RAutoOk), (40, .pure RTakesA)]) :=
    rely_cons b_spec_l1Once.has s_spec_l1Once (rely_cons b_spec_l4DrawAuto.has s_spec_l4DrawAuto (rely_cons b_spec_l3DrawRight.has s_spec_l3DrawRight (rely_cons b_spec_l3DrawWord.has s_spec_l3DrawWord (rely_cons b_spec_AutoOk.has s_spec_AutoOk (rely_cons b_spec_AutoTakes.has s_spec_AutoTakes (rely_nil mixed))))))
  have hV : CtxNV (ctxOf [(139, .gen 1 GOnce), (138, .gen 1 GDrawAuto), (148, .gen 1 GDrawRight), (147, .gen 1 GDrawWord), (38, .pure RAutoOk), (40, .pure RTakesA)]) :=
    nv_gen GOnce_nv (nv_gen GDrawAuto_nv (nv_gen GDrawRight_nv (nv_gen GDrawWord_nv (nv_pure (nv_pure nvNil)))))
  refine gen_of_aw b_spec_l6DrawTaken ?_
  rintro xs objs Q - ⟨code, i, h, n, rfl, rfl, h1, h2, h4, hq⟩ -
  refine ⟨by simp, ?_⟩
  refine Aw.meet (α := Unit) (fun _ => True) (fun _ => [(0, .ptr 0 0 0), (1, .int .i64 n), (4, .ptr 1 0 0), (5, .ptr 2 0 0)]) (fun _ => [some (curO code i h), some (.box [.int .i64 0, .int .i64 0, .int .i64 0, .snil]), some (.box [.snil, .snil])]) ?_ ?_
  · refine vc2_sound hR _ _ _ _ _ ?_
    conv => whnf
    repeat' ((first | (refine And.intro (fun hb => ?_) (fun hb => ?_) <;> ((try simp only [SB, reduceCtorEq] at hb); try (exfalso; omega))) | refine G2 ?_ | rw [ints_at (by omega)] | rw [ints_at0 (by omega)] | rw [ints_at' (by omega) (by omega)] | refine G1 ?_ | fail) <;> conv => whnf)
    refine ⟨(), trivial, [some 0, some 1, some 2], rfl, rfl, ?_, ?_⟩
    · repeat' (first | exact trivial | exact rfl | exact Or.inl rfl | refine And.intro ?_ ?_)
    · repeat' (first
        | exact trivial
        | refine ⟨?_, ?_⟩
        | fail)
      all_goals first
        | with_reducible rfl
        | (conv => whnf
           try left
           conv => lhs; whnf
           first
             | rfl
             | exact congrArg (AV.int .i64) (by omega)
             | skip)
  rintro _ -
  refine Aw.meet (α := AutoD × Nat × Int) (autI code 7689) (fun _ => [(0, .ptr 0 0 0), (4, .ptr 1 0 0), (5, .ptr 2 0 0), (6, .ptr 3 0 0)]) (fun a => [some (curO code a.2.1 a.2.2), some (.box [.int .i64 0, .int .i64 0, .int .i64 0, .snil]), some (.box [.snil, .snil]), some (.box (autoRef 4 a.1)), some (.arr 4 (edgeRows a.1.edges))]) ?_ ?_
  · refine vc2_sound hR _ _ _ _ _ ?_
    conv => whnf
    repeat' ((first | (refine And.intro (fun hb => ?_) (fun hb => ?_) <;> ((try simp only [SB, reduceCtorEq] at hb); try (exfalso; omega))) | refine G2 ?_ | rw [ints_at (by omega)] | rw [ints_at0 (by omega)] | rw [ints_at' (by omega) (by omega)] | refine G1 ?_ | refine ⟨GDrawAuto_mk (by omega) (by omega) h4 (fun a i' h' ha hi' => ?_)⟩ | fail) <;> conv => whnf)
    refine ⟨(a, i', h'), ⟨ha, hi'⟩, [some 0, some 1, some 2, some 4, some 3], rfl, rfl, ?_, ?_⟩
    · exact And.intro (And.intro (.inl rfl) (And.intro (.inl rfl) (And.intro (.inl rfl) trivial))) (And.intro (And.intro (.inl rfl) (And.intro (.inl rfl) (And.intro (.inl rfl) (And.intro (.inl rfl) trivial)))) (And.intro (And.intro (.inl rfl) (And.intro (.inl rfl) trivial)) (And.intro (And.intro (.inl rfl) (And.intro (.inl rfl) (And.intro (.inl rfl) (And.intro rfl trivial)))) (And.intro (And.intro rfl rfl) trivial))))
    · repeat' (first
        | exact trivial
        | refine ⟨?_, ?_⟩
        | fail)
      all_goals first
        | with_reducible rfl
        | (conv => whnf
           try left
           conv => lhs; whnf
           first
             | rfl
             | exact congrArg (AV.int .i64) (by omega)
             | skip)
  rintro ⟨a, i1, h1'⟩ ⟨ha, hi1⟩
  dsimp only at ha hi1 ⊢
  refine vc3_sound hR hV _ _ _ _ _ ?_
  by_cases hok : AutoOk a
  rotate_left
  · have hok' : decide (AutoOk a) = false := decide_eq_false hok
    conv => whnf
    repeat' ((first | (refine And.intro (fun hb => ?_) (fun hb => ?_) <;> ((try simp only [SB, reduceCtorEq] at hb); try (exfalso; omega))) | refine G2 ?_ | rw [ints_at (by omega)] | rw [ints_at0 (by omega)] | rw [ints_at' (by omega) (by omega)] | refine G1 ?_ | refine ⟨_, _, RAutoOk_is (args_cons (snap_auto rfl) rfl) hok', ?_⟩ | refine ⟨GDrawWord_mk (by omega) (by omega) (fun s l i' h' hs hl hi' => ?_)⟩ | fail) <;> conv => whnf)
    refine ⟨.inl rfl, ?_⟩
    conv => whnf
    refine And.intro (Nat.le_of_ble_eq_true rfl) ?_
    conv => whnf
    refine And.intro (Nat.le_of_ble_eq_true rfl) ?_
    conv => whnf
    exact ⟨[some 0, some 4, some 5, some 6], takenR 1 a s l, [some (curO code i' h'), some (.arr 4 (edgeRows a.edges)), some (.arr 1 (ints s)), some (.arr 1 (ints l))], ⟨rfl, And.intro (And.intro (.inl rfl) (And.intro (.inl rfl) (And.intro (.inl rfl) trivial))) (And.intro (And.intro rfl rfl) (And.intro (And.intro rfl rfl) (And.intro (And.intro rfl rfl) trivial)))⟩,
      And.intro (And.intro (.inl rfl) (And.intro (.inl rfl) (And.intro (.inl rfl) (And.intro rfl trivial)))) (And.intro (And.intro rfl (And.intro rfl trivial)) trivial), rfl, hq a s l i' h' ha hs hl hi'⟩
  have hok' : decide (AutoOk a) = true := decide_eq_true hok
  have hl8 : a.letters ≤ 8 := hok.1.1.2
  conv => whnf
  repeat' ((first | (refine And.intro (fun hb => ?_) (fun hb => ?_) <;> ((try simp only [SB, reduceCtorEq] at hb); try (exfalso; omega))) | refine G2 ?_ | rw [ints_at (by omega)] | rw [ints_at0 (by omega)] | rw [ints_at' (by omega) (by omega)] | refine G1 ?_ | refine ⟨_, _, RAutoOk_is (args_cons (snap_auto rfl) rfl) hok', ?_⟩ | refine ⟨GDrawRight_mk (by omega) (by omega) (by omega) (fun s l i' h' hs hl hi' => ?_)⟩ | fail) <;> conv => whnf)
  refine Lp.intro (α := (List Int × List Int × Nat × Int) × Nat) (fun c => takI code 100 c.1 ∧ c.2 ≤ 4) (fun c => 4 - c.2) (fun c => (8, .int .i64 ((c.2 : Nat) : Int)) :: takL c.1) (fun c => takO code a c.1) ?_ ?_
  · refine ⟨((s, l, i', h'), 0), ⟨⟨hs, hl, hi'⟩, Nat.zero_le _⟩, [some 0, some 1, some 2, some 3, some 4, some 7, some 5, some 6], rfl, rfl, ?_, ?_⟩
    · exact And.intro (And.intro (.inl rfl) (And.intro (.inl rfl) (And.intro (.inl rfl) trivial))) (And.intro (And.intro (.inl rfl) (And.intro (.inl rfl) (And.intro (.inl rfl) (And.intro (.inl rfl) trivial)))) (And.intro (And.intro (.inl rfl) (And.intro (.inl rfl) trivial)) (And.intro (And.intro (.inl rfl) (And.intro (.inl rfl) (And.intro (.inl rfl) (And.intro rfl trivial)))) (And.intro (And.intro rfl rfl) (And.intro (And.intro rfl (And.intro rfl trivial)) (And.intro (And.intro rfl rfl) (And.intro (And.intro rfl rfl) trivial)))))))
    · repeat' (first
        | exact trivial
        | refine ⟨?_, ?_⟩
        | fail)
      all_goals first
        | with_reducible rfl
        | (conv => whnf
           try left
           conv => lhs; whnf
           first
             | rfl
             | exact congrArg (AV.int .i64) (by omega)
             | skip)
  rintro ⟨⟨s, l, i2, h2'⟩, k⟩ ⟨⟨hs, hl, hi2⟩, hk⟩
  dsimp only at hs hl hi2 hk ⊢
  refine vc3_sound hR hV _ _ _ _ _ ?_
  cases hT : decide (TakesA a s l) with
  | true =>
    have hT' : true = true ↔ TakesA a s l := ⟨fun _ => of_decide_eq_true hT, fun _ => rfl⟩
    conv => whnf
    repeat' ((first | (refine And.intro (fun hb => ?_) (fun hb => ?_) <;> ((try simp only [SB, reduceCtorEq] at hb); try (exfalso; omega))) | refine G2 ?_ | rw [ints_at (by omega)] | rw [ints_at0 (by omega)] | rw [ints_at' (by omega) (by omega)] | refine G1 ?_ | refine ⟨_, _, RTakesA_is (args_cons (snap_auto rfl) (args_cons (snap_woT rfl rfl rfl rfl) rfl)) hT', ?_⟩ | refine ⟨GOnce_mk (by omega) (by omega) (by omega) (fun b i' h' hi' => ?_)⟩ | refine ⟨GDrawWord_mk (by omega) (by omega) (fun s l i' h' hs hl hi' => ?_)⟩ | fail) <;> conv => whnf)
    all_goals
      refine ⟨.inl rfl, ?_⟩
      conv => whnf
      refine And.intro (Nat.le_of_ble_eq_true rfl) ?_
      conv => whnf
      refine And.intro (Nat.le_of_ble_eq_true rfl) ?_
      conv => whnf
      first
      | exact ⟨[some 0, some 4, some 6, some 7], takenR 1 a s l, [some (curO code i' h'), some (.arr 4 (edgeRows a.edges)), some (.arr 1 (ints s)), some (.arr 1 (ints l))], ⟨rfl, And.intro (And.intro (.inl rfl) (And.intro (.inl rfl) (And.intro (.inl rfl) trivial))) (And.intro (And.intro rfl rfl) (And.intro (And.intro rfl rfl) (And.intro (And.intro rfl rfl) trivial)))⟩,
          And.intro (And.intro (.inl rfl) (And.intro (.inl rfl) (And.intro (.inl rfl) (And.intro rfl trivial)))) (And.intro (And.intro rfl (And.intro rfl trivial)) trivial), rfl, hq a s l i' h' ha (by omega) (by omega) hi'⟩
      | exact ⟨[some 0, some 4, some 8, some 9], takenR 1 a s l, [some (curO code i' h'), some (.arr 4 (edgeRows a.edges)), some (.arr 1 (ints s)), some (.arr 1 (ints l))], ⟨rfl, And.intro (And.intro (.inl rfl) (And.intro (.inl rfl) (And.intro (.inl rfl) trivial))) (And.intro (And.intro rfl rfl) (And.intro (And.intro rfl rfl) (And.intro (And.intro rfl rfl) trivial)))⟩,
          And.intro (And.intro (.inl rfl) (And.intro (.inl rfl) (And.intro (.inl rfl) (And.intro rfl trivial)))) (And.intro (And.intro rfl (And.intro rfl trivial)) trivial), rfl, hq a s l i' h' ha (by omega) (by omega) hi'⟩
  | false =>
    have hT' : false = true ↔ TakesA a s l := ⟨fun h => (by cases h), fun h => absurd h (of_decide_eq_false hT)⟩
    conv => whnf
    repeat' ((first | (refine And.intro (fun hb => ?_) (fun hb => ?_) <;> ((try simp only [SB, reduceCtorEq] at hb); try (exfalso; omega))) | refine G2 ?_ | rw [ints_at (by omega)] | rw [ints_at0 (by omega)] | rw [ints_at' (by omega) (by omega)] | refine G1 ?_ | refine ⟨_, _, RTakesA_is (args_cons (snap_auto rfl) (args_cons (snap_woT rfl rfl rfl rfl) rfl)) hT', ?_⟩ | refine ⟨GOnce_mk (by omega) (by omega) (by omega) (fun b i' h' hi' => ?_)⟩ | refine ⟨GDrawRight_mk (by omega) (by omega) (by omega) (fun s l i' h' hs hl hi' => ?_)⟩ | refine ⟨GDrawWord_mk (by omega) (by omega) (fun s l i' h' hs hl hi' => ?_)⟩ | fail) <;> conv => whnf)
    all_goals first
    | (refine ⟨((s, l, i', h'), k + 1), ⟨⟨hs, hl, hi'⟩, by dsimp only; omega⟩, by dsimp only; omega, [some 0, some 1, some 2, some 3, some 4, some 5, some 8, some 9], rfl, rfl, ?_, ?_⟩
       · exact And.intro (And.intro (.inl rfl) (And.intro (.inl rfl) (And.intro (.inl rfl) trivial))) (And.intro (And.intro (.inl rfl) (And.intro (.inl rfl) (And.intro (.inl rfl) (And.intro (.inl rfl) trivial)))) (And.intro (And.intro (.inl rfl) (And.intro (.inl rfl) trivial)) (And.intro (And.intro (.inl rfl) (And.intro (.inl rfl) (And.intro (.inl rfl) (And.intro rfl trivial)))) (And.intro (And.intro rfl rfl) (And.intro (And.intro rfl (And.intro rfl trivial)) (And.intro (And.intro rfl rfl) (And.intro (And.intro rfl rfl) trivial)))))))
       · exact ⟨.inl (congrArg (AV.int .i64) (by omega)), rfl, rfl, rfl, rfl, rfl, trivial⟩)
    | skip
    all_goals
      refine ⟨.inl rfl, ?_⟩
      conv => whnf
      refine And.intro (Nat.le_of_ble_eq_true rfl) ?_
      conv => whnf
      refine And.intro (Nat.le_of_ble_eq_true rfl) ?_
      conv => whnf
      first
      | exact ⟨[some 0, some 4, some 6, some 7], takenR 1 a s l, [some (curO code i' h'), some (.arr 4 (edgeRows a.edges)), some (.arr 1 (ints s)), some (.arr 1 (ints l))], ⟨rfl, And.intro (And.intro (.inl rfl) (And.intro (.inl rfl) (And.intro (.inl rfl) trivial))) (And.intro (And.intro rfl rfl) (And.intro (And.intro rfl rfl) (And.intro (And.intro rfl rfl) trivial)))⟩,
          And.intro (And.intro (.inl rfl) (And.intro (.inl rfl) (And.intro (.inl rfl) (And.intro rfl trivial)))) (And.intro (And.intro rfl (And.intro rfl trivial)) trivial), rfl, hq a s l i' h' ha (by omega) (by omega) hi'⟩
      | exact ⟨[some 0, some 4, some 8, some 9], takenR 1 a s l, [some (curO code i' h'), some (.arr 4 (edgeRows a.edges)), some (.arr 1 (ints s)), some (.arr 1 (ints l))], ⟨rfl, And.intro (And.intro (.inl rfl) (And.intro (.inl rfl) (And.intro (.inl rfl) trivial))) (And.intro (And.intro rfl rfl) (And.intro (And.intro rfl rfl) (And.intro (And.intro rfl rfl) trivial)))⟩,
          And.intro (And.intro (.inl rfl) (And.intro (.inl rfl) (And.intro (.inl rfl) (And.intro rfl trivial)))) (And.intro (And.intro rfl (And.intro rfl trivial)) trivial), rfl, hq a s l i' h' ha (by omega) (by omega) hi'⟩
end Go.Proofs.Ythanhknkoikbfaa.Ct
namespace Go.Proofs.Ythanhknkoikbfaa.Ct
set_option linter.unusedSimpArgs false
set_option linter.unusedVariables false
open Go Go.Proofs Go.Proofs.Ythanhknkoikbfaa.Av
def c_spec_DrawAskHas : ICode := (.seq (.reg [O0 2 (.alc [(.int .i64 0), (.int .i64 0), (.int .i64 0), .snil]), O0 3 (.alc [.snil, .snil])]) (.seq (.reg [O1 7 .mv 0, O1 8 (.call 110) 7, Ol 9 (.call 109) [.t 8, ci 5], O1 6 .mv 9, O1 10 (.ext 0) 6, O1 11 (.ext 1) 6, O0 4 (.alc [(.int .i64 0), (.int .i64 0), (.int .i64 0), .snil]), O0 5 (.alc [.snil, .snil]), S2 (.st 4) 4 10, S2 (.st 2) 5 11]) (.seq (.drw [O1 12 (.ldn 4) 4, O1 13 (.ldn 2) 5, S2 (.st 4) 2 12, S2 (.st 2) 3 13] (unB [0, 0, 1, 7] 0) false true) .ret)))
theorem b_spec_DrawAskHas : Body Try.prog 60 14 c_spec_DrawAskHas [(.cn 2 4), (.cn 3 2)] := body_mk Try.func60 (by kernel_rfl) (by decide)
theorem GTaken_mk {code : List UInt8} {i : Nat} {h n : Int} {Q : AV → List (Option AObj) → Prop} (h1 : i ≤ code.length) (h2 : code.length ≤ 1048576) (h4 : 1 ≤ n ∧ n ≤ 30)
    (hq : ∀ (a : AutoD) (s l : List Int) (i' : Nat) (h' : Int), a.edges.length ≤ 7689 → s.length ≤ 201 → l.length ≤ 201 → i' ≤ code.length → Q (takenR 1 a s l) [some (curO code i' h'), some (.arr 4 (edgeRows a.edges)), some (.arr 1 (ints s)), some (.arr 1 (ints l))]) :
    GTaken [.ptr 0 0 0, .int .i64 n] [curO code i h] Q := ⟨code, i, h, n, rfl, rfl, h1, h2, h4, hq⟩
theorem GTaken_nv (xs : List AV) (objs : List AObj) (Q : AV → List (Option AObj) → Prop) (h : GTaken xs objs Q) : ∃ r out, Q r out := by
  obtain ⟨code, i, h, n, _, _, _, _, _, hq⟩ := h
  exact ⟨_, _, hq zeroAuto [] [] 0 0 (by simp [zeroAuto]) (by simp) (by simp) (Nat.zero_le _)⟩
theorem GNew_nv (xs : List AV) (objs : List AObj) (Q : AV → List (Option AObj) → Prop) (h : GNew xs objs Q) : ∃ r out, Q r out := by
  obtain ⟨code, _, _, _, hq⟩ := h
  exact ⟨_, _, hq 0⟩
def GDrawAW : GFun := fun xs objs Q => ∃ (code : List UInt8), xs = [.val (code.map byteRow)] ∧ objs = [] ∧ code.length ≤ 1048576 ∧
  ∀ (a : AutoD) (s l : List Int), a.edges.length ≤ 7689 → s.length ≤ 201 → l.length ≤ 201 → Q (takenR 0 a s l) [some (.arr 4 (edgeRows a.edges)), some (.arr 1 (ints s)), some (.arr 1 (ints l))]
theorem GDrawAW_mk {code : List UInt8} {Q : AV → List (Option AObj) → Prop} (h2 : code.length ≤ 1048576)
    (hq : ∀ (a : AutoD) (s l : List Int), a.edges.length ≤ 7689 → s.length ≤ 201 → l.length ≤ 201 → Q (takenR 0 a s l) [some (.arr 4 (edgeRows a.edges)), some (.arr 1 (ints s)), some (.arr 1 (ints l))]) : GDrawAW [.val (code.map byteRow)] [] Q := ⟨code, rfl, rfl, h2, hq⟩
set_option maxHeartbeats 1000000 in
theorem s_spec_DrawAskHas : GenSound Try.prog 60 0 GDrawAW := by
  have hR : Rely Try.prog (ctxOf [(110, .gen 0 GNew), (109, .gen 1 GTaken)]) := rely_cons b_spec_l1New.has s_spec_l1New (rely_cons b_spec_l6DrawTaken.has s_spec_l6DrawTaken (rely_nil mixed))
  have hV : CtxNV (ctxOf [(110, .gen 0 GNew), (109, .gen 1 GTaken)]) := nv_gen GNew_nv (nv_gen GTaken_nv nvNil)
  refine gen_of_aw b_spec_DrawAskHas ?_
  rintro xs objs Q - ⟨code, rfl, rfl, h2, hq⟩ -
  refine ⟨by simp, vc3_sound hR hV _ _ _ _ _ ?_⟩
  conv => whnf
  repeat' ((first | (refine And.intro (fun hb => ?_) (fun hb => ?_) <;> ((try simp only [SB, reduceCtorEq] at hb); try (exfalso; omega))) | refine G2 ?_ | rw [ints_at (by omega)] | rw [ints_at0 (by omega)] | rw [ints_at' (by omega) (by omega)] | refine G1 ?_ | refine ⟨GNew_mk h2 (fun h => ?_)⟩ | refine ⟨GTaken_mk (by omega) (by omega) (by omega) (fun a s l i' h' ha hs hl hi' => ?_)⟩ | fail) <;> conv => whnf)
  refine ⟨.inl rfl, ?_⟩
  conv => whnf
  refine And.intro (Nat.le_of_ble_eq_true rfl) ?_
  conv => whnf
  refine And.intro (Nat.le_of_ble_eq_true rfl) ?_
  conv => whnf
  exact ⟨[some 3, some 4, some 5], takenR 0 a s l, [some (.arr 4 (edgeRows a.edges)), some (.arr 1 (ints s)), some (.arr 1 (ints l))], ⟨rfl, And.intro (And.intro rfl rfl) (And.intro (And.intro rfl rfl) (And.intro (And.intro rfl rfl) trivial))⟩,
    And.intro (And.intro (.inl rfl) (And.intro (.inl rfl) (And.intro (.inl rfl) (And.intro rfl trivial)))) (And.intro (And.intro rfl (And.intro rfl trivial)) trivial), rfl, hq a s l ha hs hl⟩
end Go.Proofs.Ythanhknkoikbfaa.Ct
namespace Go.Proofs.Ythanhknkoikbfaa.Ct
set_option linter.unusedSimpArgs false
set_option linter.unusedVariables false
open Go Go.Proofs Go.Proofs.Ythanhknkoikbfaa.Av Go.Proofs.Ythanhknkoikbfaa.Pl
def placeN (s l : List Int) : Nat → Nat
  | 0 => 0
  | i + 1 => nextN s l (placeN s l i)
def seqN (s l : List Int) (i : Nat) : Int := letN s l (placeN s l i)
theorem placeN_lt {s l : List Int} (hl : 0 < l.length) : ∀ i, placeN s l i < s.length + l.length
  | 0 => by show 0 < _; omega
  | i + 1 => nextN_lt (placeN_lt hl i) hl
structure Run (g : GenD) (w : Nat → Int) (q : Nat → Nat) (e : Nat → GEdgeD) : Prop where
  start : g.start.toNat.testBit (q 0) = true
  edge : ∀ i, e i ∈ g.edges
  letter : ∀ i, (e i).letter = w i
  src : ∀ i, (e i).src.toNat = q i
  dst : ∀ i, (e i).dst.toNat = q (i + 1)
  mark : ∀ b, b < g.sets.toNat → ∀ i, ∃ j, i ≤ j ∧ (e j).marks.toNat.testBit b = true
end Go.Proofs.Ythanhknkoikbfaa.Ct
namespace Go.Proofs.Ythanhknkoikbfaa.Ct
set_option linter.unusedSimpArgs false
set_option linter.unusedVariables false
open Go Go.Proofs Go.Proofs.Ythanhknkoikbfaa.Av Go.Proofs.Ythanhknkoikbfaa.Pl
def Per (l : List Int) (p : Nat) : Prop := 0 < p ∧ l.length % p = 0 ∧ l.drop p = l.take (l.length - p)
noncomputable def perL (l : List Int) : Nat := open Classical in if h : ∃ p, Per l p then Classical.choose (least _ h) else l.length
theorem per_self {l : List Int} (h : 0 < l.length) : Per l l.length := ⟨h, Nat.mod_self _, by simp⟩
theorem perL_spec {l : List Int} (h : 0 < l.length) : Per l (perL l) ∧ perL l ≤ l.length ∧ ∀ p, Per l p → perL l ≤ p := by
  have hex : ∃ p, Per l p := ⟨_, per_self h⟩
  unfold perL
  rw [dif_pos hex]
  obtain ⟨h1, h2⟩ := Classical.choose_spec (least _ hex)
  exact ⟨h1, h2 _ (per_self h), h2⟩
def rollW : Nat → List Int → List Int → List Int × List Int
  | 0, s, l => (s, l)
  | k + 1, s, l => if s ≠ [] ∧ s.getLastD 0 = l.getLastD 0 then rollW k s.dropLast (l.getLastD 0 :: l.dropLast) else (s, l)
noncomputable def canonW (s l : List Int) : List Int × List Int := rollW s.length s (l.take (perL l))
end Go.Proofs.Ythanhknkoikbfaa.Ct
namespace Go.Proofs.Ythanhknkoikbfaa.Ct
set_option linter.unusedSimpArgs false
set_option linter.unusedVariables false
open Go Go.Proofs Go.Proofs.Ythanhknkoikbfaa.Av Go.Proofs.Ythanhknkoikbfaa.Pl
def c_spec_l7Far : ICode := (.seq (.reg [O1 2 (.box 4) 0, Ol 4 .mv [.c .snil]]) (.seq (.reg [O0 11 .bsle, O1 5 .mv 11]) (.seq (.seq (.reg [Ol 6 .mv [ci 0]]) (.block 0 (.loop (.seq (.seq (.reg [O1 12 .mv 6, O1 13 (.fadr 1) 2, O1 14 .ld1 13, O2 15 (.bin .lss) 12 14]) (.cond (.t 15) .skip (.exit 0))) (.seq (.block 1 (.reg [O1 18 .mv 5, Ol 19 (.bslv 1) [ci (-1)], O2 20 (.app 1 8) 18 19, O1 5 .mv 20])) (.reg [O1 16 .mv 6, Ol 17 (.bin .add) [.t 16, ci 1], O1 6 .mv 17])))))) (.seq (.reg [O1 21 .mv 5, O1 22 .mv 1, O2 23 (.iadr 1) 21 22, Sl (.st 1) [.t 23, ci 0]]) (.seq (.reg [O1 24 .mv 1, O1 25 (.bsl 1) 24, O1 7 .mv 25]) (.seq (.seq (.reg [Ol 8 .mv [ci 0]]) (.block 2 (.loop (.seq (.seq (.reg [O1 26 .mv 8, O1 27 .mv 7, O1 28 .len 27, O2 29 (.bin .lss) 26 28]) (.cond (.t 29) .skip (.exit 2))) (.seq (.block 3 (.seq (.reg [Ol 9 .mv [ci 0]]) (.block 4 (.loop (.seq (.seq (.reg [O1 32 .mv 9, O1 33 (.fadr 3) 2, O1 34 .ld1 33, O1 35 .len 34, O2 36 (.bin .lss) 32 35]) (.cond (.t 36) .skip (.exit 4))) (.seq (.block 5 (.seq (.reg [O1 39 (.fadr 3) 2, O1 40 .ld1 39, O1 41 .mv 9, O2 42 (.iadr 4) 40 41, O1 43 (.ldn 4) 42, O0 10 (.alc [(.int .i64 0), (.int .i64 0), (.int .i64 0), (.bool false)]), S2 (.st 4) 10 43]) (.seq (.drw [O1 44 (.fadr 2) 10, O1 45 .ld1 44, O1 46 .mv 7, O1 47 .mv 8, O2 48 (.iadr 1) 46 47, O1 49 .ld1 48, O2 50 (.bin .eql) 45 49, O1 51 .mv 50, Og 52 .mv [.t 5] 51 true, Og 53 (.fadr 0) [.t 10] 51 true, Og 54 .ld1 [.t 53] 51 true, Og 55 (.iadr 1) [.t 52, .t 54] 51 true, Og 56 .ld1 [.t 55] 51 true, Og 57 (.bin .lss) [.t 56, ci 0] 51 true, Ol 58 .pick [.t 51, .t 57, cb false]] (unB [0, 1, 0, 0, 12, 28, 63, 127, 255, 255, 767, 2047, 4095, 8191, 16383] 0) true true) (.cond (.t 58) (.seq (.drw [O1 59 .mv 5, O1 60 (.fadr 0) 10, O1 61 .ld1 60, O1 62 .mv 5, O1 63 (.fadr 2) 10, O1 64 .ld1 63, O2 65 (.iadr 1) 62 64, O1 66 .ld1 65, Ol 67 (.bin .add) [.t 66, ci 1], O2 68 (.iadr 1) 59 61, S2 (.st 1) 68 67] (unB [0, 0, 2, 0, 0, 16, 56, 120, 248, 511, 1023] 0) true true) (.reg [O1 69 .mv 7, O1 70 (.fadr 0) 10, O1 71 .ld1 70, O1 72 (.bslv 1) 71, O2 73 (.app 1 8) 69 72, O1 7 .mv 73])) .skip)))) (.reg [O1 37 .mv 9, Ol 38 (.bin .add) [.t 37, ci 1], O1 9 .mv 38]))))))) (.reg [O1 30 .mv 8, Ol 31 (.bin .add) [.t 30, ci 1], O1 8 .mv 31])))))) (.seq (.reg [O1 74 .mv 5, O1 4 .mv 74]) .ret)))))))
theorem b_spec_l7Far : Body Try.prog 191 75 c_spec_l7Far [(.t 4)] := body_mk Try.func191 (by kernel_rfl) (by decide)
abbrev AE (a : AutoD) (p r : Nat) : Prop := EA a r p
noncomputable def farT (a : AutoD) (to : Nat) : List Int := farL (AE a) (· ∈ [to]) a.states.toNat
theorem farT_len {a : AutoD} {to : Nat} : (farT a to).length = a.states.toNat := length_farL
theorem adj_backA {a : AutoD} (h : AutoOk a) : Adj (backG (autoG a)) = AE a := by
  funext p r
  exact propext ((adj_back (gok_auto h)).trans (adj_auto h))
def RFarT (xs : List AV) (r : AV) (objs : List AObj) : Prop := ∃ (a : AutoD) (to : Nat), xs = [.agg (autoRow a), .int .i64 ((to : Nat) : Int)] ∧ AutoOk a ∧ to < a.states.toNat ∧ r = .ref 0 0 a.states.toNat ∧ objs = [.arr 1 (ints (farT a to))]
theorem RFarT_eq {xs : List AV} {a : AutoD} {to : Nat} (hx : xs = [.agg (autoRow a), .int .i64 ((to : Nat) : Int)]) (h : AutoOk a) (h1 : to < a.states.toNat) : RFarT xs (.ref 0 0 a.states.toNat) [.arr 1 (ints (farT a to))] := ⟨a, to, hx, h, h1, rfl, rfl⟩
theorem ints_app {l : List Int} {x : Int} {k : Nat} (hk : k = l.length) : List.take k (ints l) ++ [[.int .i64 x]] = ints (l ++ [x]) := by
  subst hk
  rw [List.take_of_length_le (by simp [ints])]
  simp [ints]
set_option maxHeartbeats 8000000 in
theorem s_spec_l7Far : PureSound Try.prog 191 RFarT := by
  have hR : Rely Try.prog (ctxOf []) := rely_nil mixed
  refine pure_of_aw b_spec_l7Far ?_
  rintro xs r objs ⟨a, to, rfl, ha, hto, rfl, rfl⟩ -
  have hs := ha.1.2.1
  have hle := length_edgeRows a.edges
  have hl := ha.2.1
  have es : a.states = ((a.states.toNat : Nat) : Int) := by omega
  generalize hn : a.states.toNat = n at *
  have hA : ∀ p r, p < n → AE a p r → r < n := fun p r _ h => by have := (ea_lt ha h).1; omega
  have hAS : ∀ p, p ∈ [to] → p < n := fun p hp => by simp at hp; omega
  refine ⟨by simp, vc2_sound hR _ _ _ _ _ ?_⟩
  conv => whnf
  repeat' ((first | contradiction | (refine And.intro (fun hb => ?_) (fun hb => ?_) <;> first | contradiction | ((try simp only [SB, reduceCtorEq] at hb); try (exfalso; first | contradiction | omega))) | refine G2 ?_ | rw [ints_at (by omega)] | rw [ints_at0 (by omega)] | rw [ints_at' (by omega) (by omega)] | refine G1 ?_ | fail) <;> conv => whnf)
  refine Lp.intro (α := Nat) (fun i => i ≤ n) (fun i => n - i) (fun i => [(1, .int .i64 to), (2, .ptr 0 0 0), (5, .ref 1 0 i), (6, .int .i64 i)]) (fun i => [some (.box (autoRow a)), some (.arr 1 (ints (List.replicate i (-1))))]) ?_ ?_
  · refine ⟨0, Nat.zero_le _, [some 0, none], rfl, rfl, And.intro (And.intro (.inl rfl) (And.intro (.inl rfl) (And.intro (.inl rfl) (And.intro (.inl rfl) trivial)))) (And.intro rfl trivial), ?_⟩
    exact ⟨.inl rfl, rfl, ⟨rfl, rfl, rfl⟩, .inl rfl, trivial⟩
  intro i hi
  have hri := length_ints (List.replicate i (-1 : Int))
  rw [List.length_replicate] at hri
  refine vc2_sound hR _ _ _ _ _ ?_
  by_cases hlt : i < n
  · conv => whnf
    repeat' ((first | contradiction | (refine And.intro (fun hb => ?_) (fun hb => ?_) <;> first | contradiction | ((try simp only [SB, reduceCtorEq] at hb); try (exfalso; first | contradiction | omega))) | refine G2 ?_ | rw [ints_at (by omega)] | rw [ints_at0 (by omega)] | rw [ints_at' (by omega) (by omega)] | refine G1 ?_ | fail) <;> conv => whnf)
    refine ⟨i + 1, hlt, by omega, [some 0, some 2], rfl, rfl, And.intro (And.intro (.inl rfl) (And.intro (.inl rfl) (And.intro (.inl rfl) (And.intro (.inl rfl) trivial)))) (And.intro (And.intro rfl ?_) trivial), ?_⟩
    · rw [ints_app (by simp), ← List.replicate_succ']
    · exact ⟨.inl rfl, rfl, rfl, .inl rfl, trivial⟩
  obtain rfl : i = n := by omega
  clear hi hlt
  have hz : (ints (List.replicate i (-1)))[0 + ((to : Nat) : Int).toNat]? = some [.int .i64 (-1)] := by
    rw [ints_at0 (by simpa using hto), List.getD_eq_getElem?_getD, List.getElem?_replicate, if_pos hto]; rfl
  conv => whnf
  repeat' ((first | contradiction | (refine And.intro (fun hb => ?_) (fun hb => ?_) <;> first | contradiction | ((try simp only [SB, reduceCtorEq] at hb); try (exfalso; first | contradiction | omega))) | refine G2 ?_ | rw [ints_at (by omega)] | rw [ints_at0 (by omega)] | rw [ints_at' (by omega) (by omega)] | refine G1 ?_ | rw [hz] | fail) <;> conv => whnf)
  have hI := (ini_start i [to]).put (p := to) (by simp) rfl hto (by rw [List.getD_eq_getElem?_getD, List.getElem?_replicate, if_pos hto]; decide)
  have hB := hI.bfs (A := AE a) (by simp)
  -- the search
  refine Lp.intro (α := List Int × List Nat × Nat) (fun b => Bfs (AE a) (· ∈ [to]) i b.1 b.2.1 b.2.2 (fun _ => False) ∧ b.2.2 ≤ b.2.1.length) (fun b => i - b.2.2)
    (fun b => [(2, .ptr 0 0 0), (5, .ref 1 0 i), (7, .ref 2 0 b.2.1.length), (8, .int .i64 b.2.2)]) (fun b => [some (.box (autoRow a)), some (.arr 1 (ints b.1)), some (.arr 1 (ints (natsI b.2.1)))]) ?_ ?_
  · refine ⟨((List.replicate i (-1)).set to 0, [] ++ [to], 0), ⟨hB, Nat.zero_le _⟩, [some 0, some 1, some 2], rfl, rfl, And.intro (And.intro (.inl rfl) (And.intro (.inl rfl) (And.intro (.inl rfl) (And.intro (.inl rfl) trivial)))) (And.intro (And.intro rfl ints_set) (And.intro (And.intro rfl rfl) trivial)), ?_⟩
    exact ⟨rfl, rfl, rfl, .inl rfl, trivial⟩
  clear hI hB hz hri
  rintro ⟨d, q, k⟩ ⟨hB, hk⟩
  dsimp only at hB hk ⊢
  have hdl := hB.len
  have hql := hB.num
  have hdi := length_ints d
  have hqi := (length_ints (natsI q)).trans (length_natsI q)
  refine vc2_sound hR _ _ _ _ _ ?_
  by_cases hlt : k < q.length
  · have hp := hB.lt k hlt
    conv => whnf
    repeat' ((first | contradiction | (refine And.intro (fun hb => ?_) (fun hb => ?_) <;> first | contradiction | ((try simp only [SB, reduceCtorEq] at hb); try (exfalso; first | contradiction | omega))) | refine G2 ?_ | rw [ints_at (by omega)] | rw [ints_at0 (by omega)] | rw [ints_at' (by omega) (by omega)] | refine G1 ?_ | fail) <;> conv => whnf)
    -- the edges
    refine Lp.intro (α := List Int × List Nat × Nat) (fun b => Bfs (AE a) (· ∈ [to]) i b.1 b.2.1 k (fun r => ∃ j, j < b.2.2 ∧ (a.edges.getD j default).dst.toNat = q.getD k 0 ∧ (a.edges.getD j default).src.toNat = r) ∧ k < b.2.1.length ∧ b.2.1.getD k 0 = q.getD k 0 ∧ b.2.2 ≤ a.edges.length) (fun b => a.edges.length - b.2.2)
      (fun b => [(2, .ptr 0 0 0), (5, .ref 1 0 i), (7, .ref 2 0 b.2.1.length), (8, .int .i64 k), (9, .int .i64 b.2.2)]) (fun b => [some (.box (autoRow a)), some (.arr 1 (ints b.1)), some (.arr 1 (ints (natsI b.2.1)))]) ?_ ?_
    · refine ⟨(d, q, 0), ⟨hB.see (fun r _ _ _ hr => by obtain ⟨j, hj, _⟩ := hr; dsimp only at hj; omega), hlt, rfl, Nat.zero_le _⟩, [some 0, some 1, some 2], rfl, rfl, And.intro (And.intro (.inl rfl) (And.intro (.inl rfl) (And.intro (.inl rfl) (And.intro (.inl rfl) trivial)))) (And.intro (And.intro rfl rfl) (And.intro (And.intro rfl rfl) trivial)), ?_⟩
      exact ⟨rfl, rfl, rfl, .inl rfl, .inl rfl, trivial⟩
    generalize hpp : q.getD k 0 = p at *
    clear hB hdl hql hdi hqi
    rintro ⟨d', q', j⟩ ⟨hC, hk', hqp, hj⟩
    dsimp only at hC hk' hqp hj ⊢
    have hdl := hC.len
    have hql := hC.num
    have hdi := length_ints d'
    have hqi := (length_ints (natsI q')).trans (length_natsI q')
    have hbnd := hC.bnd k hk'
    have hd0 := (hC.lt k hk').2
    rw [hqp] at hbnd hd0
    refine vc2_sound hR _ _ _ _ _ ?_
    by_cases hjl : j < a.edges.length
    · have he := edge_in ha hjl
      unfold EdgeIn at he
      have es1 : (a.edges.getD j default).src = (((a.edges.getD j default).src.toNat : Nat) : Int) := by omega
      have es2 : (a.edges.getD j default).dst = (((a.edges.getD j default).dst.toNat : Nat) : Int) := by omega
      have hq0 : (ints (natsI q'))[0 + ((k : Nat) : Int).toNat]? = some [.int .i64 ((p : Nat) : Int)] := by rw [natsI_at0 hk', hqp]
      have hsr : (ints d')[0 + (a.edges.getD j default).src.toNat]? = some [.int .i64 (d'.getD (a.edges.getD j default).src.toNat 0)] := by
        have := ints_at0 (xs := d') (i := (a.edges.getD j default).src.toNat) (by omega)
        rwa [Int.toNat_natCast] at this
      have hds : (ints d')[0 + (a.edges.getD j default).dst.toNat]? = some [.int .i64 (d'.getD (a.edges.getD j default).dst.toNat 0)] := by
        have := ints_at0 (xs := d') (i := (a.edges.getD j default).dst.toNat) (by omega)
        rwa [Int.toNat_natCast] at this
      have hup : (a.edges.getD j default).dst = ((p : Nat) : Int) → d'.getD (a.edges.getD j default).dst.toNat 0 = d'.getD p 0 := fun h => by
        rw [h, Int.toNat_natCast]
      conv => whnf
      repeat' ((first | contradiction | (refine And.intro (fun hb => ?_) (fun hb => ?_) <;> first | contradiction | ((try simp only [SB, reduceCtorEq] at hb); try (exfalso; first | contradiction | omega))) | refine G2 ?_ | rw [ints_at (by omega)] | rw [ints_at0 (by omega)] | rw [ints_at' (by omega) (by omega)] | refine G1 ?_ | rw [edge_at (by omega)] | rw [hq0] | rw [hsr] | rw [hds] | fail) <;> conv => whnf)
      · rename_i g1 g2
        have e1 := hup g1
        have hdp : (a.edges.getD j default).dst.toNat = p := by omega
        have hpush := hC.push hA hAS hk' (r := (a.edges.getD j default).src.toNat) (by omega) (by rw [hqp]; exact ⟨_, getD_mem' hjl, rfl, hdp⟩) g2
        rw [hqp] at hpush
        refine ⟨(d'.set (a.edges.getD j default).src.toNat (d'.getD p 0 + 1), q' ++ [(a.edges.getD j default).src.toNat], j + 1), ⟨hpush.see (fun r hr _ _ hcr => ?_), by simp; omega, by rw [getD_app, if_pos hk']; exact hqp, hjl⟩, by dsimp only; omega, [some 0, some 1, some 4], rfl, rfl, And.intro (And.intro (.inl rfl) (And.intro (.inl rfl) (And.intro (.inl rfl) (And.intro (.inl rfl) trivial)))) (And.intro (And.intro rfl ?_) (And.intro (And.intro rfl ?_) trivial)), ?_⟩
        · obtain ⟨j', hj', h1, rfl⟩ := hcr
          by_cases hjj : j' = j
          · subst hjj
            refine .inr ?_
            rw [Pl.getD_set, if_pos ⟨rfl, by omega⟩]
            omega
          · exact .inl ⟨j', by dsimp only at hj'; omega, h1, rfl⟩
        · rw [← e1]
          simp [ints, List.map_set]
        · have := natsI_app (l := q') (p := (a.edges.getD j default).src.toNat) rfl
          rwa [← es1] at this
        · exact ⟨rfl, rfl, congrArg (AV.ref 4 0) (by simp), .inl rfl, .inl rfl, trivial⟩
      all_goals
        refine ⟨(d', q', j + 1), ⟨hC.see (fun r hr _ _ hcr => ?_), hk', hqp, hjl⟩, by dsimp only; omega, [some 0, some 1, some 2], rfl, rfl, And.intro (And.intro (.inl rfl) (And.intro (.inl rfl) (And.intro (.inl rfl) (And.intro (.inl rfl) trivial)))) (And.intro (And.intro rfl rfl) (And.intro (And.intro rfl rfl) trivial)), ?_⟩
        · obtain ⟨j', hj', h1, rfl⟩ := hcr
          by_cases hjj : j' = j
          · subst hjj
            first
            | exact .inr (by omega)
            | (exfalso; rename_i g _; exact g (by omega))
            | (exfalso; omega)
          · exact .inl ⟨j', by dsimp only at hj'; omega, h1, rfl⟩
        · exact ⟨rfl, rfl, rfl, .inl rfl, .inl rfl, trivial⟩
    · conv => whnf
      repeat' ((first | contradiction | (refine And.intro (fun hb => ?_) (fun hb => ?_) <;> first | contradiction | ((try simp only [SB, reduceCtorEq] at hb); try (exfalso; first | contradiction | omega))) | refine G2 ?_ | rw [ints_at (by omega)] | rw [ints_at0 (by omega)] | rw [ints_at' (by omega) (by omega)] | refine G1 ?_ | fail) <;> conv => whnf)
      refine ⟨(d', q', k + 1), ⟨hC.next (fun _ r hr ha => ?_), hk'⟩, by dsimp only; omega, [some 0, some 1, some 2], rfl, rfl, And.intro (And.intro (.inl rfl) (And.intro (.inl rfl) (And.intro (.inl rfl) (And.intro (.inl rfl) trivial)))) (And.intro (And.intro rfl rfl) (And.intro (And.intro rfl rfl) trivial)), ?_⟩
      · rw [hqp] at ha
        obtain ⟨e, he, h1, h2⟩ := ha
        obtain ⟨m, hm, rfl⟩ := mem_at he
        exact ⟨m, by omega, h2, h1⟩
      · exact ⟨rfl, rfl, rfl, .inl rfl, trivial⟩
  · have hfin := hB.fin hA hAS (by omega)
    conv => whnf
    repeat' ((first | contradiction | (refine And.intro (fun hb => ?_) (fun hb => ?_) <;> first | contradiction | ((try simp only [SB, reduceCtorEq] at hb); try (exfalso; first | contradiction | omega))) | refine G2 ?_ | rw [ints_at (by omega)] | rw [ints_at0 (by omega)] | rw [ints_at' (by omega) (by omega)] | refine G1 ?_ | fail) <;> conv => whnf)
    refine ⟨.inl rfl, ?_⟩
    conv => whnf
    subst hfin
    exact ⟨[some 1], ⟨rfl, And.intro (And.intro rfl (by unfold farT; rw [hn])) trivial⟩, rfl, rfl, by simp [AObj.nov, ints_nov]⟩
end Go.Proofs.Ythanhknkoikbfaa.Ct
namespace Go.Proofs.Ythanhknkoikbfaa.Ct
set_option linter.unusedSimpArgs false
set_option linter.unusedVariables false
open Go Go.Proofs Go.Proofs.Ythanhknkoikbfaa.Av Go.Proofs.Ythanhknkoikbfaa.Pl
def c_spec_PathWord : ICode := (.seq (.reg [O1 3 (.box 4) 0, Ol 6 .mv [.c .snil], Ol 7 .mv [cb false]]) (.seq (.reg [O0 15 .bsle, O1 8 .mv 15]) (.seq (.seq (.reg [O1 16 (.ldn 4) 3, O1 17 (.call 38) 16, O1 18 .not 17, O1 19 .mv 18, Og 20 .mv [.t 1] 19 false, Og 21 (.fadr 1) [.t 3] 19 false, Og 22 .ld1 [.t 21] 19 false, Og 23 (.bin .shl) [ci 1, .t 22] 19 false, Og 24 (.bin .sub) [.t 23, ci 1] 19 false, Og 25 (.call 115) [.t 20, .t 24] 19 false, Og 26 .not [.t 25] 19 false, Ol 27 .pick [.t 19, cb true, .t 26], O1 28 .mv 27, Og 29 .mv [.t 2] 28 false, Og 30 (.fadr 1) [.t 3] 28 false, Og 31 .ld1 [.t 30] 28 false, Og 32 (.call 116) [.t 29, .t 31] 28 false, Og 33 .not [.t 32] 28 false, Ol 34 .pick [.t 28, cb true, .t 33]]) (.cond (.t 34) (.seq (.reg [O1 35 .mv 8, O1 6 .mv 35, Ol 7 .mv [cb false]]) .ret) .skip)) (.seq (.reg [O1 36 (.ldn 4) 3, O1 37 .mv 2, O2 38 (.call 191) 36 37, O1 9 .mv 38]) (.seq (.reg [O1 40 .mv 9, O1 41 .mv 1, O2 42 (.call 192) 40 41, O1 39 .mv 42, O1 43 (.ext 0) 39, O1 44 (.ext 1) 39, O1 10 .mv 43, O1 11 .mv 44]) (.seq (.seq (.reg [O1 45 .mv 11, Ol 46 (.bin .lss) [.t 45, ci 0]]) (.cond (.t 46) (.seq (.reg [O1 47 .mv 8, O1 6 .mv 47, Ol 7 .mv [cb false]]) .ret) .skip)) (.seq (.block 0 (.loop (.seq (.seq (.reg [O1 48 .mv 11, Ol 49 (.bin .gtr) [.t 48, ci 0]]) (.cond (.t 49) .skip (.exit 0))) (.block 1 (.seq (.seq (.reg [Ol 12 .mv [ci 0]]) (.block 2 (.loop (.seq (.seq (.reg [O1 50 .mv 12, O1 51 (.fadr 0) 3, O1 52 .ld1 51, O2 53 (.bin .lss) 50 52]) (.cond (.t 53) .skip (.exit 2))) (.seq (.block 3 (.seq (.reg [O1 57 .mv 9, O1 58 (.ldn 4) 3, O1 59 .mv 10, O1 60 .mv 12, O3 61 (.call 161) 58 59 60, O2 62 (.call 192) 57 61, O1 56 .mv 62, O1 63 (.ext 0) 56, O1 64 (.ext 1) 56, O1 13 .mv 63, O1 14 .mv 64]) (.seq (.reg [O1 65 .mv 14, O1 66 .mv 11, Ol 67 (.bin .sub) [.t 66, ci 1], O2 68 (.bin .eql) 65 67]) (.cond (.t 68) (.seq (.reg [O1 69 .mv 8, O1 70 .mv 12, O1 71 (.bslv 1) 70, O2 72 (.app 1 8) 69 71, O1 8 .mv 72]) (.seq (.reg [O1 73 .mv 13, O1 10 .mv 73]) (.exit 2))) .skip)))) (.reg [O1 54 .mv 12, Ol 55 (.bin .add) [.t 54, ci 1], O1 12 .mv 55])))))) (.reg [O1 74 .mv 11, Ol 75 (.bin .sub) [.t 74, ci 1], O1 11 .mv 75])))))) (.seq (.reg [O1 76 .mv 8, O1 6 .mv 76, Ol 7 .mv [cb true]]) .ret))))))))
theorem b_spec_PathWord : Body Try.prog 143 77 c_spec_PathWord [(.t 6), (.t 7)] := body_mk Try.func143 (by kernel_rfl) (by decide)
def c_impl_Auto_pathWord : ICode := (.seq (.reg [Ol 6 .mv [.c .snil], Ol 7 .mv [cb false]]) (.seq (.reg [O1 17 .mv 0, O1 18 (.call 121) 17, O1 19 (.call 177) 18, O1 20 .mv 2, O1 21 (.bsl 1) 20, O2 22 (.call 103) 19 21, O0 8 (.alc [.snil]), S2 (.st 1) 8 22]) (.seq (.reg [Ol 9 .mv [ci (-1)]]) (.seq (.seq (.reg [O1 23 .mv 1, O1 24 (.call 80) 23, O1 25 .len 24, Ol 26 .mv [ci 0]]) (.block 0 (.loop (.seq (.reg [O2 27 (.bin .lss) 26 25]) (.seq (.cond (.t 27) .skip (.exit 0)) (.seq (.block 1 (.seq (.reg [O2 28 (.iadr 1) 24 26, O1 29 .ld1 28, O1 11 .mv 29]) (.seq (.reg [O1 30 .ld1 8, O1 31 .mv 11, O2 32 (.iadr 1) 30 31, O1 33 .ld1 32, Ol 34 (.bin .geq) [.t 33, ci 0], O1 35 .mv 34, Og 36 .mv [.t 9] 35 true, Og 37 (.bin .lss) [.t 36, ci 0] 35 true, Og 38 .mv [.t 37] 35 true, Og 39 .ld1 [.t 8] 38 false, Og 40 .mv [.t 11] 38 false, Og 41 (.iadr 1) [.t 39, .t 40] 38 false, Og 42 .ld1 [.t 41] 38 false, Og 43 .mv [.t 9] 38 false, Og 44 (.bin .lss) [.t 42, .t 43] 38 false, Og 45 .pick [.t 38, cb true, .t 44] 35 true, Ol 46 .pick [.t 35, .t 45, cb false]]) (.cond (.t 46) (.reg [O1 47 .ld1 8, O1 48 .mv 11, O2 49 (.iadr 1) 47 48, O1 50 .ld1 49, O1 9 .mv 50]) .skip)))) (.reg [Ol 51 (.bin .add) [.t 26, ci 1], O1 26 .mv 51]))))))) (.seq (.seq (.reg [O1 52 .mv 9, Ol 53 (.bin .lss) [.t 52, ci 0]]) (.cond (.t 53) (.seq (.reg [Ol 6 .mv [.c .snil], Ol 7 .mv [cb false]]) .ret) .skip)) (.seq (.reg [O1 54 (.mkf 189) 8, O1 12 .mv 54]) (.seq (.reg [Ol 13 .mv [.c .snil]]) (.seq (.reg [O1 55 .mv 1, O1 56 .mv 12, O1 57 .mv 9, O2 58 .dyn 56 57, O2 59 (.bin .and) 55 58, O1 1 .mv 59]) (.seq (.block 2 (.loop (.seq (.seq (.reg [O1 60 .mv 9, Ol 61 (.bin .gtr) [.t 60, ci 0]]) (.cond (.t 61) .skip (.exit 2))) (.seq (.block 3 (.seq (.reg [O1 64 .mv 12, O1 65 .mv 9, Ol 66 (.bin .sub) [.t 65, ci 1], O2 67 .dyn 64 66, O1 14 .mv 67]) (.seq (.reg [O1 68 .mv 0, O1 69 .nck 68, O1 70 (.fadr 0) 69, O1 71 .ld1 70, Ol 72 .mv [ci 0]]) (.block 4 (.loop (.seq (.reg [O2 73 (.bin .lss) 72 71]) (.seq (.cond (.t 73) .skip (.exit 4)) (.seq (.block 5 (.seq (.reg [O1 74 .mv 72, O1 15 .mv 74]) (.seq (.reg [O1 75 .mv 0, O1 76 .mv 1, O1 77 .mv 15, O3 78 (.call 190) 75 76 77, O1 79 .mv 14, O2 80 (.bin .and) 78 79, O1 16 .mv 80]) (.seq (.reg [O1 81 .mv 16, Ol 82 (.bin .neq) [.t 81, ci 0]]) (.cond (.t 82) (.seq (.reg [O1 83 .mv 13, O1 84 .mv 15, O1 85 (.bslv 1) 84, O2 86 (.app 1 8) 83 85, O1 13 .mv 86]) (.seq (.reg [O1 87 .mv 16, O1 1 .mv 87]) (.exit 4))) .skip))))) (.reg [Ol 88 (.bin .add) [.t 72, ci 1], O1 72 .mv 88]))))))))) (.reg [O1 62 .mv 9, Ol 63 (.bin .sub) [.t 62, ci 1], O1 9 .mv 63]))))) (.seq (.reg [O1 89 .mv 13, O1 6 .mv 89, Ol 7 .mv [cb true]]) .ret))))))))))
theorem b_impl_Auto_pathWord : Body Try.prog 140 90 c_impl_Auto_pathWord [(.t 6), (.t 7)] := body_mk Try.func140 (by kernel_rfl) (by decide)
noncomputable def down (a : AutoD) (F : List Int) (X x k : Nat) : Nat := stepU a X x &&& atN F k F.length
inductive Pt (a : AutoD) (F : List Int) (b X0 : Nat) : Nat → Nat → List Nat → Prop
  | start : Pt a F b X0 b X0 []
  | step {k X x : Nat} {out : List Nat} : Pt a F b X0 (k + 1) X out → (∀ y, y < x → down a F X y k = 0) → down a F X x k ≠ 0 → Pt a F b X0 k (down a F X x k) (out ++ [x])
theorem Pt.len {a : AutoD} {F : List Int} {b X0 k X : Nat} {out : List Nat} (h : Pt a F b X0 k X out) : out.length + k = b := by
  induction h with
  | start => simp
  | step _ _ _ ih => simp; omega
theorem Pt.uniq {a : AutoD} {F : List Int} {b X0 k X : Nat} {out : List Nat} (h : Pt a F b X0 k X out) : ∀ {X' : Nat} {out' : List Nat}, Pt a F b X0 k X' out' → X = X' ∧ out = out' := by
  induction h with
  | start =>
    intro X' out' h'
    cases h' with
    | start => exact ⟨rfl, rfl⟩
    | step h _ _ => have := h.len; omega
  | step h1 h2 h3 ih =>
    intro X' out' h'
    cases h' with
    | start => have := h1.len; omega
    | @step _ X2 x2 out2 g1 g2 g3 =>
      obtain ⟨rfl, rfl⟩ := ih g1
      rename_i x _
      rcases Nat.lt_trichotomy x x2 with h | h | h
      · exact absurd (g2 _ h) h3
      · subst h; exact ⟨rfl, rfl⟩
      · exact absurd (h2 _ h) g3
open Classical in
noncomputable def pwOf (a : AutoD) (F : List Int) (b X : Nat) : List Nat := if h : ∃ out X', Pt a F b X 0 X' out then Classical.choose h else []
theorem pwOf_eq {a : AutoD} {F : List Int} {b X X' : Nat} {out : List Nat} (h : Pt a F b X 0 X' out) : pwOf a F b X = out := by
  have hex : ∃ out X', Pt a F b X 0 X' out := ⟨_, _, h⟩
  unfold pwOf
  rw [dif_pos hex]
  obtain ⟨_, g⟩ := Classical.choose_spec hex
  exact (g.uniq h).2
def Far (a : AutoD) (to k X : Nat) : Prop := X ≠ 0 ∧ ∀ p, X.testBit p = true → p < a.states.toNat ∧ IsDist (AE a) (· ∈ [to]) p (k : Int)
theorem farT_at {a : AutoD} {to p : Nat} (h : p < a.states.toNat) : (farT a to).getD p 0 = distI (AE a) (· ∈ [to]) p := farL_at h
theorem isDist_of {A : Nat → Nat → Prop} {S : Nat → Prop} {p k : Nat} (h : distI A S p = (k : Int)) : IsDist A S p (k : Int) := by
  rcases dist_cases A S p with h1 | h1
  · omega
  · rw [h] at h1; exact h1
theorem bit_ne {X : Nat} (h : X ≠ 0) : ∃ p, X.testBit p = true := by
  refine Classical.byContradiction fun hn => h (bits_ext fun i => ⟨fun hi => absurd ⟨i, hi⟩ hn, fun hi => by simp at hi⟩)
theorem bit_atN {F : List Int} {k : Int} {n p : Nat} : (atN F k n).testBit p = true ↔ p < n ∧ F.getD p 0 = k := testBit_bitsOf
theorem far_and {a : AutoD} {to k X : Nat} (h : X &&& atN (farT a to) k (farT a to).length ≠ 0) : Far a to k (X &&& atN (farT a to) k (farT a to).length) := by
  refine ⟨h, fun p hp => ?_⟩
  rw [Nat.testBit_and, Bool.and_eq_true, bit_atN, farT_len] at hp
  obtain ⟨_, h1, h2⟩ := hp
  rw [farT_at h1] at h2
  exact ⟨h1, isDist_of h2⟩
theorem bit_stepU {a : AutoD} {X q : Nat} {x : Int} : (stepU a X x).testBit q = true ↔ ∃ e ∈ a.edges, e.letter = x ∧ X.testBit e.src.toNat = true ∧ e.dst.toNat = q := by
  unfold stepU
  rw [bit_stepI]
  constructor
  · rintro ⟨j, h1, h2, h3, h4⟩; exact ⟨_, getD_mem' h1, h2, h3, h4⟩
  · rintro ⟨e, he, h2, h3, h4⟩
    obtain ⟨j, hj, rfl⟩ := mem_at he
    exact ⟨j, hj, h2, h3, h4⟩
theorem far_some {a : AutoD} (ha : AutoOk a) {to k X : Nat} (h : Far a to (k + 1) X) : ∃ x : Nat, (x : Int) < a.letters ∧ down a (farT a to) X x k ≠ 0 := by
  obtain ⟨p, hp⟩ := bit_ne h.1
  obtain ⟨hpn, hd⟩ := h.2 p hp
  obtain ⟨q, hq, e, he, h1, h2⟩ := dist_pred hd
  obtain ⟨i, hi, rfl⟩ := mem_at he
  have hin := edge_in ha hi
  unfold EdgeIn at hin
  refine ⟨(a.edges.getD i default).letter.toNat, by omega, fun h0 => ?_⟩
  have hb : (down a (farT a to) X (a.edges.getD i default).letter.toNat k).testBit q = true := by
    unfold down
    rw [Nat.testBit_and, Bool.and_eq_true, bit_stepU, bit_atN, farT_len]
    refine ⟨⟨_, he, by omega, by rw [h1]; exact hp, h2⟩, by omega, ?_⟩
    rw [farT_at (by omega)]
    exact dist_of hq
  rw [h0, Nat.zero_testBit] at hb
  cases hb
theorem far_step {a : AutoD} {to k X q : Nat} {x : Int} (h : Far a to (k + 1) X) (hq : (stepU a X x).testBit q = true) {d : Int} (hd : IsDist (AE a) (· ∈ [to]) q d) : (k : Int) ≤ d := by
  obtain ⟨e, he, _, h3, h4⟩ := bit_stepU.1 hq
  obtain ⟨_, g1, g2, g3⟩ := h.2 _ h3
  have := g3 (d.toNat + 1) ⟨q, hd.2.1, e, he, rfl, h4⟩
  have := hd.1
  omega
theorem mem_bitF {a : AutoD} (ha : AutoOk a) {X q : Nat} {x : Int} {to : Nat} (hq : q ∈ bitL (stepU a X x) (farT a to).length) : q < a.states.toNat ∧ (stepU a X x).testBit q = true := by
  rw [mem_bitL, farT_len] at hq
  exact hq
theorem near_down {a : AutoD} (ha : AutoOk a) {to k X x : Nat} (h : Far a to (k + 1) X) :
    best (farT a to) (bitL (stepU a X x) (farT a to).length) = (k : Int) ↔ down a (farT a to) X x k ≠ 0 := by
  constructor
  · intro hb h0
    obtain ⟨q, h1, h2⟩ := best_mem (F := farT a to) (L := bitL (stepU a X x) (farT a to).length) (by omega)
    obtain ⟨h3, h4⟩ := mem_bitF ha h1
    have hb2 : (down a (farT a to) X x k).testBit q = true := by
      unfold down
      rw [Nat.testBit_and, Bool.and_eq_true, bit_atN, farT_len]
      exact ⟨h4, h3, by rw [h2, hb]⟩
    rw [h0, Nat.zero_testBit] at hb2
    cases hb2
  · intro h0
    obtain ⟨q, hq⟩ := bit_ne h0
    unfold down at hq
    rw [Nat.testBit_and, Bool.and_eq_true, bit_atN, farT_len] at hq
    obtain ⟨h1, h2, h3⟩ := hq
    have hm : q ∈ bitL (stepU a X x) (farT a to).length := by rw [mem_bitL, farT_len]; exact ⟨h2, h1⟩
    obtain ⟨g1, g2⟩ := best_le (F := farT a to) hm (by omega)
    obtain ⟨p, g3, g4⟩ := best_mem g1
    obtain ⟨g5, g6⟩ := mem_bitF ha g3
    rw [farT_at g5] at g4
    have := far_step (x := (x : Int)) h g6 (d := best (farT a to) (bitL (stepU a X x) (farT a to).length)) (by
      rcases dist_cases (AE a) (· ∈ [to]) p with c | c
      · omega
      · rw [g4] at c; exact c)
    omega
theorem Pt.far {a : AutoD} {to b X0 k X : Nat} {out : List Nat} (h0 : Far a to b X0) (h : Pt a (farT a to) b X0 k X out) : Far a to k X := by
  cases h with
  | start => exact h0
  | step _ _ h3 => exact far_and h3
theorem ae_lt {a : AutoD} (ha : AutoOk a) {to : Nat} (hto : to < a.states.toNat) {p : Nat} {d : Int} (h : IsDist (AE a) (· ∈ [to]) p d) : d < a.states.toNat :=
  dist_lt (n := a.states.toNat) (fun p r _ h => (ea_lt ha h).1) (fun p hp => by simp at hp; omega) h
noncomputable def pathW (a : AutoD) (X to : Nat) : List Nat × Bool :=
  if best (farT a to) (bitL X (farT a to).length) < 0 then ([], false) else (pwOf a (farT a to) (best (farT a to) (bitL X (farT a to).length)).toNat (X &&& atN (farT a to) (best (farT a to) (bitL X (farT a to).length)) (farT a to).length), true)
theorem path_far {a : AutoD} {to X : Nat} (h : 0 ≤ best (farT a to) (bitL X (farT a to).length)) : Far a to (best (farT a to) (bitL X (farT a to).length)).toNat (X &&& atN (farT a to) (best (farT a to) (bitL X (farT a to).length)) (farT a to).length) := by
  have e : best (farT a to) (bitL X (farT a to).length) = ((best (farT a to) (bitL X (farT a to).length)).toNat : Int) := by omega
  obtain ⟨p, h1, h2⟩ := best_mem h
  rw [mem_bitL] at h1
  have key : X &&& atN (farT a to) (best (farT a to) (bitL X (farT a to).length)) (farT a to).length ≠ 0 := fun h0 => by
    have hb : (X &&& atN (farT a to) (best (farT a to) (bitL X (farT a to).length)) (farT a to).length).testBit p = true := by
      rw [Nat.testBit_and, Bool.and_eq_true, bit_atN]
      exact ⟨h1.2, h1.1, h2⟩
    rw [h0, Nat.zero_testBit] at hb
    cases hb
  have := far_and (a := a) (to := to) (k := (best (farT a to) (bitL X (farT a to).length)).toNat) (X := X) (by rw [← e]; exact key)
  rwa [← e] at this
theorem best_lt {a : AutoD} (ha : AutoOk a) {to X : Nat} (hto : to < a.states.toNat) : best (farT a to) (bitL X (farT a to).length) < 31 := by
  have hs := ha.1.2.1
  rcases Int.lt_or_le (best (farT a to) (bitL X (farT a to).length)) 0 with h | h
  · omega
  · have hf := path_far h
    obtain ⟨p, hp⟩ := bit_ne hf.1
    have := ae_lt ha hto (hf.2 p hp).2
    omega
def RPathS (xs : List AV) (r : AV) (objs : List AObj) : Prop := ∃ (a : AutoD) (X to : Nat), xs = [.agg (autoRow a), .int .i64 ((X : Nat) : Int), .int .i64 ((to : Nat) : Int)] ∧ AutoOk a ∧ X < 2 ^ a.states.toNat ∧ to < a.states.toNat ∧
  r = .tup [.ref 0 0 (pathW a X to).1.length, .bool (pathW a X to).2] ∧ objs = [.arr 1 (ints (natsI (pathW a X to).1))]
theorem RPathS_eq {xs : List AV} {a : AutoD} {X to : Nat} (hx : xs = [.agg (autoRow a), .int .i64 ((X : Nat) : Int), .int .i64 ((to : Nat) : Int)]) (h : AutoOk a) (h1 : X < 2 ^ a.states.toNat) (h2 : to < a.states.toNat) :
    RPathS xs (.tup [.ref 0 0 (pathW a X to).1.length, .bool (pathW a X to).2]) [.arr 1 (ints (natsI (pathW a X to).1))] := ⟨a, X, to, hx, h, h1, h2, rfl, rfl⟩
def RPath (xs : List AV) (r : AV) (objs : List AObj) : Prop := ∃ (a : AutoD) (X to : Nat), xs = [.rptr (autoRow a) 0, .int .i64 ((X : Nat) : Int), .int .i64 ((to : Nat) : Int)] ∧ AutoOk a ∧ X < 2 ^ a.states.toNat ∧ to < a.states.toNat ∧
  r = .tup [.ref 0 0 (pathW a X to).1.length, .bool (pathW a X to).2] ∧ objs = [.arr 1 (ints (natsI (pathW a X to).1))]
theorem RPath_eq {xs : List AV} {a : AutoD} {X to : Nat} (hx : xs = [.rptr (autoRow a) 0, .int .i64 ((X : Nat) : Int), .int .i64 ((to : Nat) : Int)]) (h : AutoOk a) (h1 : X < 2 ^ a.states.toNat) (h2 : to < a.states.toNat) :
    RPath xs (.tup [.ref 0 0 (pathW a X to).1.length, .bool (pathW a X to).2]) [.arr 1 (ints (natsI (pathW a X to).1))] := ⟨a, X, to, hx, h, h1, h2, rfl, rfl⟩
theorem lt31 {a : AutoD} (ha : AutoOk a) {X : Nat} (hX : X < 2 ^ a.states.toNat) : X < 2 ^ 31 := Nat.lt_of_lt_of_le hX (pow_le31 (by have := ha.1.2.1; omega))
theorem ltI {s : Int} {X : Nat} (hX : X < 2 ^ s.toNat) : ((X : Nat) : Int) < 2 ^ s.toNat := by
  rw [← natPow]; exact Int.ofNat_lt.2 hX
theorem far_lt {a : AutoD} {to k X : Nat} (h : Far a to k X) : X < 2 ^ a.states.toNat := lt_two_pow_of fun i hi => (h.2 i hi).1
set_option maxHeartbeats 8000000 in
theorem s_spec_PathWord : PureSound Try.prog 143 RPathS := by
  have hR : Rely Try.prog (ctxOf [(38, .pure RAutoOk), (115, .pure RSetIn), (116, .pure RState), (191, .pure RFarT), (192, .pure RNear), (161, .pure RNext)]) :=
    rely_cons b_spec_AutoOk.has s_spec_AutoOk (rely_cons b_spec_SetIn.has s_spec_SetIn (rely_cons b_spec_l4State.has s_spec_l4State (rely_cons b_spec_l7Far.has s_spec_l7Far (rely_cons b_spec_l7Near.has s_spec_l7Near (rely_cons b_spec_l4Next.has s_spec_l4Next (rely_nil mixed))))))
  refine pure_of_aw b_spec_PathWord ?_
  rintro xs r objs ⟨a, X, to, rfl, ha, hX, hto, rfl, rfl⟩ -
  have hs := ha.1.2.1
  have hlet := ha.1.1
  have hX31 := lt31 ha hX
  have hXi := ltI hX
  have hFl : (farT a to).length = a.states.toNat := farT_len
  have hF31 : (farT a to).length ≤ 31 := by omega
  have hle := (length_ints (farT a to)).trans hFl
  have hbl := best_lt ha (X := X) hto
  generalize hpw : pathW a X to = pw
  unfold pathW at hpw
  refine ⟨by simp, vc2_sound hR _ _ _ _ _ ?_⟩
  conv => whnf
  repeat' ((first | contradiction | (refine And.intro (fun hb => ?_) (fun hb => ?_) <;> first | contradiction | ((try simp only [SB, reduceCtorEq] at hb); try (exfalso; first | contradiction | omega))) | refine G2 ?_ | rw [ints_at (by omega)] | rw [ints_at0 (by omega)] | rw [ints_at' (by omega) (by omega)] | refine G1 ?_ | refine ⟨_, mask_in (by omega) (by omega), ?_⟩ | refine ⟨_, _, RAutoOk_mk, ?_⟩ | refine ⟨_, _, RSetIn_mk (by omega) (by omega), ?_⟩ | refine ⟨_, _, RState_mk (by omega) (by omega), ?_⟩ | refine ⟨_, _, RFarT_eq rfl ha hto, ?_⟩ | refine ⟨_, _, RNear_eq (congrArg (fun v => [v, AV.int .i64 ((X : Nat) : Int)]) (snap_all rfl hle)) hF31 hX31, ?_⟩ | fail) <;> conv => whnf)
  · rw [if_pos (by assumption)] at hpw
    subst hpw
    refine ⟨.inl rfl, ?_⟩
    conv => whnf
    exact ⟨[none], ⟨rfl, And.intro rfl trivial⟩, ⟨⟨rfl, rfl, rfl⟩, .inl rfl, trivial⟩, rfl, rfl⟩
  rw [if_neg (by omega)] at hpw
  have hfar := path_far (a := a) (to := to) (X := X) (by assumption)
  rw [nearN_eq (by assumption)]
  have eb : ((best (farT a to) (bitL X (farT a to).length)).toNat : Int) = best (farT a to) (bitL X (farT a to).length) := by omega
  generalize hX0 : X &&& atN (farT a to) (best (farT a to) (bitL X (farT a to).length)) (farT a to).length = X0 at *
  generalize hbb : (best (farT a to) (bitL X (farT a to).length)).toNat = b at *
  rw [← eb]
  refine Lp.intro (α := Nat × Nat × List Nat) (fun c => Pt a (farT a to) b X0 c.1 c.2.1 c.2.2) (fun c => c.1) (fun c => [(3, .rptr (autoRow a) 0), (8, .ref 0 0 c.2.2.length), (9, .val (ints (farT a to))), (10, .int .i64 ((c.2.1 : Nat) : Int)), (11, .int .i64 ((c.1 : Nat) : Int))]) (fun c => [some (.arr 1 (ints (natsI c.2.2)))]) ?_ ?_
  · refine ⟨(b, X0, []), .start, [none], rfl, rfl, And.intro rfl trivial, ?_⟩
    exact ⟨.inr rfl, ⟨rfl, rfl, rfl⟩, .inr (snap_all rfl hle), .inl rfl, .inl rfl, trivial⟩
  rintro ⟨k, Y, out⟩ hP
  dsimp only at hP ⊢
  have hol := hP.len
  have hfk := hP.far hfar
  have hY31 := lt31 ha (far_lt hfk)
  have hqi := (length_ints (natsI out)).trans (length_natsI out)
  refine vc2_sound hR _ _ _ _ _ ?_
  cases k with
  | zero =>
    conv => whnf
    repeat' ((first | contradiction | (refine And.intro (fun hb => ?_) (fun hb => ?_) <;> first | contradiction | ((try simp only [SB, reduceCtorEq] at hb); try (exfalso; first | contradiction | omega))) | refine G2 ?_ | rw [ints_at (by omega)] | rw [ints_at0 (by omega)] | rw [ints_at' (by omega) (by omega)] | refine G1 ?_ | fail) <;> conv => whnf)
    refine ⟨.inl rfl, ?_⟩
    conv => whnf
    have e := pwOf_eq hP
    rw [e] at hpw
    subst hpw
    exact ⟨[some 0], ⟨rfl, And.intro (And.intro rfl rfl) trivial⟩, ⟨rfl, .inl rfl, trivial⟩, rfl, by simp [AObj.nov, ints_nov]⟩
  | succ k =>
    conv => whnf
    repeat' ((first | contradiction | (refine And.intro (fun hb => ?_) (fun hb => ?_) <;> first | contradiction | ((try simp only [SB, reduceCtorEq] at hb); try (exfalso; first | contradiction | omega))) | refine G2 ?_ | rw [ints_at (by omega)] | rw [ints_at0 (by omega)] | rw [ints_at' (by omega) (by omega)] | refine G1 ?_ | fail) <;> conv => whnf)
    refine Lp.intro (α := Nat) (fun x => (x : Int) ≤ a.letters ∧ ∀ y, y < x → down a (farT a to) Y y k = 0) (fun x => a.letters.toNat - x) (fun x => [(3, .rptr (autoRow a) 0), (8, .ref 0 0 out.length), (9, .val (ints (farT a to))), (10, .int .i64 ((Y : Nat) : Int)), (11, .int .i64 ((k + 1 : Nat) : Int)), (12, .int .i64 x)]) (fun _ => [some (.arr 1 (ints (natsI out)))]) ?_ ?_
    · refine ⟨0, ⟨by omega, fun y hy => by omega⟩, [some 0], rfl, rfl, And.intro (And.intro rfl rfl) trivial, ?_⟩
      exact ⟨.inl rfl, rfl, .inl rfl, .inl rfl, .inl rfl, .inl rfl, trivial⟩
    rintro x ⟨hx, hno⟩
    have hU := stepI_31 ha (X := Y) (x := (x : Int)) (Nat.le_refl _)
    refine vc2_sound hR _ _ _ _ _ ?_
    by_cases hlt : (x : Int) < a.letters
    · have hnd := near_down ha (x := x) hfk
      conv => whnf
      repeat' ((first | contradiction | (refine And.intro (fun hb => ?_) (fun hb => ?_) <;> first | contradiction | ((try simp only [SB, reduceCtorEq] at hb); try (exfalso; first | contradiction | omega))) | refine G2 ?_ | rw [ints_at (by omega)] | rw [ints_at0 (by omega)] | rw [ints_at' (by omega) (by omega)] | refine G1 ?_ | refine ⟨_, _, RNext_eq rfl ha hY31, ?_⟩ | refine ⟨_, _, RNear_eq rfl hF31 hU, ?_⟩ | fail) <;> conv => whnf)
      · have hk : best (farT a to) (bitL (stepU a Y x) (farT a to).length) = (k : Int) := by omega
        have hd := hnd.1 hk
        refine ⟨(k, down a (farT a to) Y x k, out ++ [x]), .step hP hno hd, by dsimp only; omega, [some 1], rfl, rfl, And.intro (And.intro rfl (natsI_app rfl)) trivial, ?_⟩
        exact ⟨.inl rfl, congrArg (AV.ref 1 0) (by simp), .inl rfl, .inl (congrArg (fun x : Nat => AV.int .i64 x) (by rw [hk, nearN_eq (by omega)]; rfl)), .inl (congrArg (AV.int .i64) (by (try dsimp only); omega)), trivial⟩
      · refine ⟨x + 1, ⟨by omega, fun y hy => ?_⟩, by omega, [some 0], rfl, rfl, And.intro (And.intro rfl rfl) trivial, ?_⟩
        · by_cases hyx : y = x
          · subst hyx
            refine Classical.byContradiction fun h0 => ?_
            have := hnd.2 h0
            omega
          · exact hno y (by omega)
        · exact ⟨.inl rfl, rfl, .inl rfl, .inl rfl, .inl rfl, .inl rfl, trivial⟩
    · exfalso
      obtain ⟨y, h1, h2⟩ := far_some ha hfk
      exact h2 (hno y (by omega))
theorem snap_box {h : Heap} {b j n z : Nat} {rows : List (List AV)} (hb : h b = some (.box [.ref j 0 n])) (hj : h j = some (.arr z rows)) (hn : rows.length = n) : (AV.ptr b 0 0).snap h = .rptr [.val rows] 0 := by
  simp only [AV.snap, hb, if_true, List.map_cons, List.map_nil, snap1_all hj hn]
theorem best_take {F : List Int} {L : List Nat} {i : Nat} (hi : i < L.length) : best F (L.take (i + 1)) = near1 F (best F (L.take i)) (L.getD i 0) := by
  rw [List.take_add_one, List.getElem?_eq_getElem hi, Option.toList_some, best_app]
  simp [List.getD_eq_getElem?_getD, hi]
theorem near1_yes {F : List Int} {b : Int} {s : Nat} (h0 : 0 ≤ F.getD s 0) (h : b < 0 ∨ F.getD s 0 < b) : near1 F b s = F.getD s 0 := by unfold near1; rw [if_pos ⟨h0, h⟩]
theorem near1_no {F : List Int} {b : Int} {s : Nat} (h : F.getD s 0 < 0 ∨ (0 ≤ b ∧ b ≤ F.getD s 0)) : near1 F b s = b := by unfold near1; rw [if_neg (by omega)]
theorem steps_autoG {a : AutoD} (ha : AutoOk a) : steps (autoG a) ≤ 1000000000 := by
  have h := steps_mkG (n := a.states.toNat) (l := a.edges.map trip)
  have := ha.2.1
  rw [List.length_map] at h
  exact Nat.le_trans h (by omega)
set_option maxHeartbeats 8000000 in
theorem s_impl_pathWord : PureSound Try.prog 140 RPath := by
  have hR : Rely Try.prog (ctxOf [(121, .pure RAutoG), (177, .pure RBack), (103, .pure RFar), (80, .pure RSetList), (189, .pure RAtN), (190, .pure RStep)]) :=
    rely_cons b_impl_Auto_graph.has s_impl_graph (rely_cons b_impl_graph_back.has s_impl_back (rely_cons b_impl_graph_far.has s_impl_far (rely_cons b_impl_SetList.has s_impl_SetList (rely_cons b_impl_Auto_pathWord_1.has s_impl_atN (rely_cons b_impl_Auto_step.has s_impl_step (rely_nil mixed))))))
  refine pure_of_aw b_impl_Auto_pathWord ?_
  rintro xs r objs ⟨a, X, to, rfl, ha, hX, hto, rfl, rfl⟩ -
  have hs := ha.1.2.1
  have hlet := ha.1.1
  have hX31 := lt31 ha hX
  have hXi := ltI hX
  have hFl : (farT a to).length = a.states.toNat := farT_len
  have hF31 : (farT a to).length ≤ 31 := by omega
  have hle := (length_ints (farT a to)).trans hFl
  have hbl := best_lt ha (X := X) hto
  have hgl : (autoG a).length = a.states.toNat := length_mkG _ _
  have hbkl : (backG (autoG a)).length = a.states.toNat := (length_mkG _ _).trans hgl
  have hbf : farL (Adj (backG (autoG a))) (· ∈ [to]) (backG (autoG a)).length = farT a to := by rw [adj_backA ha, hbkl]; rfl
  have hgk := gok_auto ha
  have hst := steps_autoG ha
  have hst2 := steps_back hgk
  have hbL : bitL X 31 = bitL X (farT a to).length := bitL_more (by rw [hFl]; exact hX) hF31
  generalize hpw : pathW a X to = pw
  unfold pathW at hpw
  refine ⟨by simp, vc2_sound hR _ _ _ _ _ ?_⟩
  conv => whnf
  repeat' ((first | contradiction | (refine And.intro (fun hb => ?_) (fun hb => ?_) <;> first | contradiction | ((try simp only [SB, reduceCtorEq] at hb); try (exfalso; first | contradiction | omega))) | refine G2 ?_ | rw [ints_at (by omega)] | rw [ints_at0 (by omega)] | rw [ints_at' (by omega) (by omega)] | refine G1 ?_ | refine ⟨_, _, RAutoG_eq rfl ha, ?_⟩ | refine ⟨_, _, RBack_eq (congrArg (fun v => [v]) (snap_graph rfl rfl hgl.symm)) hgk (by omega) hst, ?_⟩ | (refine ⟨_, _, RFar_eq (G := backG (autoG a)) (src := [to]) (args_cons (snap_graph rfl rfl (by omega)) (args_cons (snap_all rfl rfl) rfl)) (gok_back hgk) (by omega) (by omega) (fun p hp => by simp at hp; omega) (by simp), ?_⟩) | refine ⟨_, _, RSetList_mk hX31, ?_⟩ | fail) <;> conv => whnf)
  generalize hL : bitL X 31 = L at *
  have hLn : L.length ≤ 31 := by rw [← hL]; exact bitL_len
  have hqi := (length_ints (natsI L)).trans (length_natsI L)
  have hmem : ∀ i, i < L.length → L.getD i 0 < a.states.toNat := fun i hi => by
    have : L.getD i 0 ∈ bitL X 31 := by
      rw [hL, List.getD_eq_getElem?_getD, List.getElem?_eq_getElem hi]
      exact List.getElem_mem hi
    exact bit_lt hX (mem_bitL.1 this).2
  refine Lp.intro (α := Nat) (fun i => i ≤ L.length) (fun i => L.length - i) (fun i => [(0, .rptr (autoRow a) 0), (1, .int .i64 ((X : Nat) : Int)), (8, .rptr [.val (ints (farT a to))] 0), (9, .int .i64 (best (farT a to) (L.take i))), (24, .val (ints (natsI L))), (25, .int .i64 L.length), (26, .int .i64 i)]) (fun _ => []) ?_ ?_
  · refine ⟨0, Nat.zero_le _, [], rfl, rfl, trivial, ?_⟩
    exact ⟨.inl rfl, .inl rfl, .inr (snap_box rfl (congrArg (fun l => some (AObj.arr 1 (ints l))) hbf) (by rw [length_ints, farT_len]; omega)), .inl rfl, .inr (snap_all rfl hqi), .inl rfl, .inl rfl, trivial⟩
  intro i hi
  refine vc2_sound hR _ _ _ _ _ ?_
  by_cases hlt : i < L.length
  · have hm := hmem i hlt
    have ht := best_take (F := farT a to) hlt
    have hat : (ints (farT a to))[((L.getD i 0 : Nat) : Int).toNat]? = some [.int .i64 ((farT a to).getD (L.getD i 0) 0)] := by rw [ints_at (by omega)]
    generalize hv : (farT a to).getD (L.getD i 0) 0 = v at *
    conv => whnf
    repeat' ((first | contradiction | (refine And.intro (fun hb => ?_) (fun hb => ?_) <;> first | contradiction | ((try simp only [SB, reduceCtorEq] at hb); try (exfalso; first | contradiction | omega))) | refine G2 ?_ | rw [ints_at (by omega)] | rw [ints_at0 (by omega)] | rw [ints_at' (by omega) (by omega)] | refine G1 ?_ | rw [natsI_at hlt] | rw [hat] | fail) <;> conv => whnf)
    all_goals
      refine ⟨i + 1, hlt, by omega, [], rfl, rfl, trivial, ?_⟩
      exact ⟨.inl rfl, .inl rfl, .inl rfl, .inl (congrArg (AV.int .i64) (by (try dsimp only); rw [ht]; first | (rw [near1_yes (by omega) (by omega), hv]) | (rw [near1_no (by omega)]))), .inl rfl, .inl rfl, .inl rfl, trivial⟩
  obtain rfl : i = L.length := by omega
  rw [List.take_length]
  have hbb : best (farT a to) L = best (farT a to) (bitL X (farT a to).length) := by rw [← hbL]
  rw [hbb]
  generalize hB : best (farT a to) (bitL X (farT a to).length) = B at *
  have hN31 := atN_lt (F := farT a to) (k := B) (n := (farT a to).length) hF31
  conv => whnf
  repeat' ((first | contradiction | (refine And.intro (fun hb => ?_) (fun hb => ?_) <;> first | contradiction | ((try simp only [SB, reduceCtorEq] at hb); try (exfalso; first | contradiction | omega))) | refine G2 ?_ | rw [ints_at (by omega)] | rw [ints_at0 (by omega)] | rw [ints_at' (by omega) (by omega)] | refine G1 ?_ | refine ⟨_, _, RAtN_eq rfl hF31, ?_⟩ | fail) <;> conv => whnf)
  · rw [if_pos (by assumption)] at hpw
    subst hpw
    refine ⟨.inl rfl, ?_⟩
    conv => whnf
    exact ⟨[none], ⟨rfl, And.intro rfl trivial⟩, ⟨⟨rfl, rfl, rfl⟩, .inl rfl, trivial⟩, rfl, rfl⟩
  rw [if_neg (by omega)] at hpw
  have hfar := path_far (a := a) (to := to) (X := X) (by omega)
  rw [hB] at hfar
  have hX0w := and_valN (X := X) (Y := atN (farT a to) B (farT a to).length) (by omega) (by omega)
  have eb : B = ((B.toNat : Nat) : Int) := by omega
  generalize hX0 : X &&& atN (farT a to) B (farT a to).length = X0 at *
  generalize hbb : B.toNat = b at *
  refine Lp.intro (α := Nat × Nat × List Nat) (fun c => Pt a (farT a to) b X0 c.1 c.2.1 c.2.2) (fun c => c.1) (fun c => [(0, .rptr (autoRow a) 0), (1, .int .i64 ((c.2.1 : Nat) : Int)), (9, .int .i64 ((c.1 : Nat) : Int)), (12, .fn 189 [.rptr [.val (ints (farT a to))] 0]), (13, .ref 0 0 c.2.2.length)]) (fun c => [some (.arr 1 (ints (natsI c.2.2)))]) ?_ ?_
  · refine ⟨(b, X0, []), .start, [none], rfl, rfl, And.intro rfl trivial, ?_⟩
    exact ⟨.inl rfl, .inl (congrArg (AV.int .i64) hX0w), .inl (congrArg (AV.int .i64) eb), ⟨rfl, .inl rfl, trivial⟩, ⟨rfl, rfl, rfl⟩, trivial⟩
  rintro ⟨k, Y, out⟩ hP
  dsimp only at hP ⊢
  have hol := hP.len
  have hfk := hP.far hfar
  have hY31 := lt31 ha (far_lt hfk)
  have hqo := (length_ints (natsI out)).trans (length_natsI out)
  refine vc2_sound hR _ _ _ _ _ ?_
  cases k with
  | zero =>
    conv => whnf
    repeat' ((first | contradiction | (refine And.intro (fun hb => ?_) (fun hb => ?_) <;> first | contradiction | ((try simp only [SB, reduceCtorEq] at hb); try (exfalso; first | contradiction | omega))) | refine G2 ?_ | rw [ints_at (by omega)] | rw [ints_at0 (by omega)] | rw [ints_at' (by omega) (by omega)] | refine G1 ?_ | fail) <;> conv => whnf)
    refine ⟨.inl rfl, ?_⟩
    conv => whnf
    have e := pwOf_eq hP
    rw [e] at hpw
    subst hpw
    exact ⟨[some 0], ⟨rfl, And.intro (And.intro rfl rfl) trivial⟩, ⟨rfl, .inl rfl, trivial⟩, rfl, by simp [AObj.nov, ints_nov]⟩
  | succ k =>
    have ek : ((k + 1 : Nat) : Int) - 1 = ((k : Nat) : Int) := by omega
    conv => whnf
    repeat' ((first | contradiction | (refine And.intro (fun hb => ?_) (fun hb => ?_) <;> first | contradiction | ((try simp only [SB, reduceCtorEq] at hb); try (exfalso; first | contradiction | omega))) | refine G2 ?_ | rw [ints_at (by omega)] | rw [ints_at0 (by omega)] | rw [ints_at' (by omega) (by omega)] | refine G1 ?_ | refine ⟨_, _, RAtN_eq (F := farT a to) (congrArg (fun z => [AV.int .i64 z, AV.rptr [.val (ints (farT a to))] 0]) ek) hF31, ?_⟩ | fail) <;> conv => whnf)
    refine Lp.intro (α := Nat) (fun x => (x : Int) ≤ a.letters ∧ ∀ y, y < x → down a (farT a to) Y y k = 0) (fun x => a.letters.toNat - x) (fun x => [(0, .rptr (autoRow a) 0), (1, .int .i64 ((Y : Nat) : Int)), (9, .int .i64 ((k + 1 : Nat) : Int)), (12, .fn 189 [.rptr [.val (ints (farT a to))] 0]), (13, .ref 0 0 out.length), (14, .int .i64 ((atN (farT a to) k (farT a to).length : Nat) : Int)), (71, .int .i64 a.letters), (72, .int .i64 x)]) (fun _ => [some (.arr 1 (ints (natsI out)))]) ?_ ?_
    · refine ⟨0, ⟨by omega, fun y hy => by omega⟩, [some 0], rfl, rfl, And.intro (And.intro rfl rfl) trivial, ?_⟩
      exact ⟨.inl rfl, .inl rfl, .inl rfl, ⟨rfl, .inl rfl, trivial⟩, rfl, .inl rfl, .inl rfl, .inl rfl, trivial⟩
    rintro x ⟨hx, hno⟩
    have hU := stepI_31 ha (X := Y) (x := (x : Int)) (Nat.le_refl _)
    have hN31' := atN_lt (F := farT a to) (k := (k : Int)) (n := (farT a to).length) hF31
    have hand := and_valN (X := stepU a Y x) (Y := atN (farT a to) k (farT a to).length) (show stepI a Y x a.edges.length < _ by omega) (by omega)
    refine vc2_sound hR _ _ _ _ _ ?_
    by_cases hlt : (x : Int) < a.letters
    · conv => whnf
      repeat' ((first | contradiction | (refine And.intro (fun hb => ?_) (fun hb => ?_) <;> first | contradiction | ((try simp only [SB, reduceCtorEq] at hb); try (exfalso; first | contradiction | omega))) | refine G2 ?_ | rw [ints_at (by omega)] | rw [ints_at0 (by omega)] | rw [ints_at' (by omega) (by omega)] | refine G1 ?_ | refine ⟨_, _, RStep_eq rfl ha hY31, ?_⟩ | fail) <;> conv => whnf)
      · have h0 := hb
        rw [hand] at h0
        have hd : down a (farT a to) Y x k ≠ 0 := fun h => h0 (by unfold down at h; rw [h]; rfl)
        refine ⟨(k, down a (farT a to) Y x k, out ++ [x]), .step hP hno hd, by dsimp only; omega, [some 1], rfl, rfl, And.intro (And.intro rfl (natsI_app rfl)) trivial, ?_⟩
        exact ⟨.inl rfl, .inl (congrArg (AV.int .i64) hand), .inl (congrArg (AV.int .i64) (by (try dsimp only); omega)), ⟨rfl, .inl rfl, trivial⟩, congrArg (AV.ref 1 0) (by simp), trivial⟩
      · have h0 := hb
        rw [hand] at h0
        refine ⟨x + 1, ⟨by omega, fun y hy => ?_⟩, by omega, [some 0], rfl, rfl, And.intro (And.intro rfl rfl) trivial, ?_⟩
        · by_cases hyx : y = x
          · subst hyx
            unfold down
            omega
          · exact hno y (by omega)
        · exact ⟨.inl rfl, .inl rfl, .inl rfl, ⟨rfl, .inl rfl, trivial⟩, rfl, .inl rfl, .inl rfl, .inl rfl, trivial⟩
    · exfalso
      obtain ⟨y, h1, h2⟩ := far_some ha hfk
      exact h2 (hno y (by omega))
end Go.Proofs.Ythanhknkoikbfaa.Ct
namespace Go.Proofs.Ythanhknkoikbfaa.Ct
set_option linter.unusedSimpArgs false
set_option linter.unusedVariables false
open Go Go.Proofs Go.Proofs.Ythanhknkoikbfaa.Av Go.Proofs.Ythanhknkoikbfaa.Pl
def c_slices_Grow_int_int : ICode := (.seq (.reg [Ol 4 .mv [.c .snil]]) (.seq (.seq (.reg [O1 5 .mv 1, Ol 6 (.bin .lss) [.t 5, ci 0]]) (.cond (.t 6) (.reg [O0 7 .no, Sl .no []]) .skip)) (.seq (.seq (.reg [O1 8 .mv 1, O1 9 .mv 0, O1 10 .cap 9, O1 11 .mv 0, O1 12 .len 11, O2 13 (.bin .sub) 10 12, O2 14 (.bin .sub) 8 13, O1 1 .mv 14]) (.seq (.reg [O1 15 .mv 1, Ol 16 (.bin .gtr) [.t 15, ci 0]]) (.cond (.t 16) (.reg [O1 17 .mv 0, O1 18 .mv 0, O1 19 .cap 18, O2 20 (.slc 1 false true) 17 19, O1 21 .mv 1, O2 22 (.apz 1 8 [(.int .i64 0)]) 20 21, O1 23 .mv 0, O1 24 .len 23, O2 25 (.slc 1 false true) 22 24, O1 0 .mv 25]) .skip))) (.seq (.reg [O1 26 .mv 0, O1 4 .mv 26]) .ret))))
theorem b_slices_Grow_int_int : Body Try.prog 179 27 c_slices_Grow_int_int [(.t 4)] := body_mk Try.func179 (by kernel_rfl) (by decide)
def c_slices_Concat_int_int : ICode := (.seq (.reg [Ol 2 .mv [.c .snil]]) (.seq (.reg [Ol 3 .mv [ci 0]]) (.seq (.seq (.reg [O1 9 .mv 0, O1 10 .len 9, Ol 11 .mv [ci 0]]) (.block 0 (.loop (.seq (.reg [O2 12 (.bin .lss) 11 10]) (.seq (.cond (.t 12) .skip (.exit 0)) (.seq (.block 1 (.seq (.reg [O2 13 (.iadr 1) 9 11, O1 14 .ld1 13, O1 5 .mv 14]) (.seq (.reg [O1 15 .mv 3, O1 16 .mv 5, O1 17 .len 16, O2 18 (.bin .add) 15 17, O1 3 .mv 18]) (.seq (.reg [O1 19 .mv 3, Ol 20 (.bin .lss) [.t 19, ci 0]]) (.cond (.t 20) (.reg [O0 21 .no, Sl .no []]) .skip))))) (.reg [Ol 22 (.bin .add) [.t 11, ci 1], O1 11 .mv 22]))))))) (.seq (.reg [O1 23 .mv 3, Ol 24 (.call 179) [.c .snil, .t 23], O1 6 .mv 24]) (.seq (.seq (.reg [O1 25 .mv 0, O1 26 .len 25, Ol 27 .mv [ci 0]]) (.block 2 (.loop (.seq (.reg [O2 28 (.bin .lss) 27 26]) (.seq (.cond (.t 28) .skip (.exit 2)) (.seq (.block 3 (.seq (.reg [O2 29 (.iadr 1) 25 27, O1 30 .ld1 29, O1 8 .mv 30]) (.reg [O1 31 .mv 6, O1 32 .mv 8, O2 33 (.app 1 8) 31 32, O1 6 .mv 33]))) (.reg [Ol 34 (.bin .add) [.t 27, ci 1], O1 27 .mv 34]))))))) (.seq (.reg [O1 35 .mv 6, O1 2 .mv 35]) .ret))))))
theorem b_slices_Concat_int_int : Body Try.prog 107 36 c_slices_Concat_int_int [(.t 2)] := body_mk Try.func107 (by kernel_rfl) (by decide)
def c_spec_AutoWord : ICode := (.seq (.reg [O1 1 (.box 4) 0, O0 2 (.alc [.snil, .snil]), Ol 3 .mv [cb false]]) (.seq (.seq (.reg [O1 11 (.ldn 4) 1, O1 12 (.call 38) 11, O1 13 .not 12]) (.cond (.t 13) (.seq (.reg [O0 14 (.bld [.snil, .snil] []), S2 (.st 2) 2 14, Ol 3 .mv [cb false]]) .ret) .skip)) (.seq (.reg [O1 15 (.ldn 4) 1, O1 16 (.fadr 2) 1, O1 17 .ld1 16, O2 18 (.call 142) 15 17, O1 4 .mv 18]) (.seq (.seq (.reg [Ol 5 .mv [ci 0]]) (.block 0 (.loop (.seq (.seq (.reg [O1 19 .mv 5, O1 20 (.fadr 3) 1, O1 21 .ld1 20, O1 22 .len 21, O2 23 (.bin .lss) 19 22]) (.cond (.t 23) .skip (.exit 0))) (.seq (.block 1 (.seq (.reg [O1 26 (.fadr 3) 1, O1 27 .ld1 26, O1 28 .mv 5, O2 29 (.iadr 4) 27 28, O1 30 (.ldn 4) 29, O0 6 (.alc [(.int .i64 0), (.int .i64 0), (.int .i64 0), (.bool false)]), S2 (.st 4) 6 30]) (.seq (.seq (.reg [O1 31 (.fadr 3) 6, O1 32 .ld1 31, O1 33 .not 32, O1 34 .mv 33, Og 35 .mv [.t 4] 34 false, Og 36 (.fadr 0) [.t 6] 34 false, Og 37 .ld1 [.t 36] 34 false, Og 38 (.call 73) [.t 35, .t 37] 34 false, Og 39 .not [.t 38] 34 false, Ol 40 .pick [.t 34, cb true, .t 39]]) (.cond (.t 40) (.exit 1) .skip)) (.seq (.drw [O1 42 (.ldn 4) 1, O1 43 (.fadr 2) 6, O1 44 .ld1 43, O1 45 (.call 123) 44, O1 46 (.fadr 0) 6, O1 47 .ld1 46, O3 48 (.call 143) 42 45 47, O1 41 .mv 48, O1 49 (.ext 0) 41, O1 50 (.ext 1) 41, O1 7 .mv 49, O1 8 .mv 50] (unB [0, 0, 2, 6, 0, 16, 63, 127, 255, 255, 511, 2047] 0) true true) (.seq (.reg [O1 51 .mv 8]) (.cond (.t 51) (.seq (.reg [O1 53 (.ldn 4) 1, O1 54 (.fadr 2) 1, O1 55 .ld1 54, O1 56 (.fadr 0) 6, O1 57 .ld1 56, O3 58 (.call 143) 53 55 57, O1 52 .mv 58, O1 59 (.ext 0) 52, O1 60 (.ext 1) 52, O1 9 .mv 59, O1 10 .mv 60]) (.seq (.reg [O1 61 .mv 9, O1 62 (.fadr 1) 6, O1 63 .ld1 62, O1 64 (.bsl 1) 63, O1 65 .mv 7, O2 66 (.app 1 8) 64 65, O2 67 (.bld [.snil, .snil] [(0, 1), (1, 1)]) 61 66, S2 (.st 2) 2 67, Ol 3 .mv [cb true]]) .ret)) .skip)))))) (.reg [O1 24 .mv 5, Ol 25 (.bin .add) [.t 24, ci 1], O1 5 .mv 25])))))) (.seq (.reg [O0 68 (.bld [.snil, .snil] []), S2 (.st 2) 2 68, Ol 3 .mv [cb false]]) .ret)))))
theorem b_spec_AutoWord : Body Try.prog 58 69 c_spec_AutoWord [(.cn 2 2), (.t 3)] := body_mk Try.func58 (by kernel_rfl) (by decide)
def GGrow : GFun := fun xs objs Q => ∃ n : Nat, xs = [.snil, .int .i64 ((n : Nat) : Int)] ∧ objs = [] ∧ n ≤ 1000000 ∧ Q (.ref 0 0 0) [some (.arr 1 (List.replicate n [.int .i64 0]))]
theorem GGrow_mk {n : Nat} {Q : AV → List (Option AObj) → Prop} (h : n ≤ 1000000) (hq : Q (.ref 0 0 0) [some (.arr 1 (List.replicate n [.int .i64 0]))]) : GGrow [.snil, .int .i64 ((n : Nat) : Int)] [] Q := ⟨n, rfl, rfl, h, hq⟩
theorem s_slices_Grow : GenSound Try.prog 179 0 GGrow := by
  have hR : Rely Try.prog (ctxOf []) := rely_nil mixed
  refine gen_of_aw b_slices_Grow_int_int ?_
  rintro xs objs Q - ⟨n, rfl, rfl, hn, hq⟩ -
  refine ⟨by simp, vc2_sound hR _ _ _ _ _ ?_⟩
  conv => whnf
  repeat' ((first | contradiction | (refine And.intro (fun hb => ?_) (fun hb => ?_) <;> first | contradiction | ((try simp only [SB, reduceCtorEq] at hb); try (exfalso; first | contradiction | omega))) | refine G2 ?_ | rw [ints_at (by omega)] | rw [ints_at0 (by omega)] | rw [ints_at' (by omega) (by omega)] | refine G1 ?_ | fail) <;> conv => whnf)
  · refine ⟨.inl rfl, ?_⟩
    conv => whnf
    refine ⟨[some 0], .ref 0 0 0, [some (.arr 1 (List.replicate n [.int .i64 0]))], ⟨rfl, And.intro (And.intro rfl ?_) trivial⟩, rfl, rfl, hq⟩
    exact congrArg (fun k => List.replicate k [AV.int .i64 0]) (by omega)
  · obtain rfl : n = 0 := by omega
    refine ⟨.inl rfl, ?_⟩
    conv => whnf
    exact ⟨[none], .ref 0 0 0, [some (.arr 1 [])], ⟨rfl, And.intro rfl trivial⟩, ⟨rfl, rfl, rfl⟩, rfl, hq⟩
def rowsL (Ls : List (List Int)) : List (List AV) := Ls.map fun l => [.val (ints l)]
@[simp] theorem length_rowsL (Ls : List (List Int)) : (rowsL Ls).length = Ls.length := by simp [rowsL]
theorem rowsL_at {Ls : List (List Int)} {i : Nat} (h : i < Ls.length) : (rowsL Ls)[((i : Nat) : Int).toNat]? = some [.val (ints (Ls.getD i []))] := by
  simp [rowsL, List.getElem?_map, List.getElem?_eq_getElem h, List.getD_eq_getElem?_getD]
def flat (Ls : List (List Int)) (i : Nat) : List Int := (Ls.take i).flatten
theorem flat_succ {Ls : List (List Int)} {i : Nat} (h : i < Ls.length) : flat Ls (i + 1) = flat Ls i ++ Ls.getD i [] := by
  unfold flat
  rw [List.take_add_one, List.getElem?_eq_getElem h, Option.toList_some, List.flatten_append]
  simp [List.getD_eq_getElem?_getD, h]
theorem flat_le {Ls : List (List Int)} {i j : Nat} (h : i ≤ j) : (flat Ls i).length ≤ (flat Ls j).length := by
  induction j with
  | zero => rw [show i = 0 by omega]; exact Nat.le_refl _
  | succ j ih =>
    by_cases hij : i = j + 1
    · rw [hij]; exact Nat.le_refl _
    · refine Nat.le_trans (ih (by omega)) ?_
      rcases Nat.lt_or_ge j Ls.length with hj | hj
      · rw [flat_succ hj, List.length_append]; omega
      · unfold flat
        rw [List.take_of_length_le hj, List.take_of_length_le (by omega)]
        exact Nat.le_refl _
theorem flat_all {Ls : List (List Int)} {i : Nat} (h : Ls.length ≤ i) : flat Ls i = Ls.flatten := by unfold flat; rw [List.take_of_length_le h]
theorem ints_ones {l : List Int} : ∀ r ∈ ints l, r.length = 1 := by
  intro r hr
  obtain ⟨x, _, rfl⟩ := List.mem_map.1 hr
  rfl
def RConcat (xs : List AV) (r : AV) (objs : List AObj) : Prop := ∃ Ls, xs = [.val (rowsL Ls)] ∧ 0 < Ls.length ∧ Ls.length ≤ 1000 ∧ Ls.flatten.length ≤ 1000000 ∧ r = .ref 0 0 Ls.flatten.length ∧ objs = [.arr 1 (ints Ls.flatten)]
theorem RConcat_eq {xs : List AV} {Ls : List (List Int)} (hx : xs = [.val (rowsL Ls)]) (h0 : 0 < Ls.length) (h1 : Ls.length ≤ 1000) (h2 : Ls.flatten.length ≤ 1000000) : RConcat xs (.ref 0 0 Ls.flatten.length) [.arr 1 (ints Ls.flatten)] := ⟨Ls, hx, h0, h1, h2, rfl, rfl⟩
set_option maxHeartbeats 1000000 in
theorem s_slices_Concat : PureSound Try.prog 107 RConcat := by
  have hR : Rely Try.prog (ctxOf [(179, .gen 0 GGrow)]) := rely_cons b_slices_Grow_int_int.has s_slices_Grow (rely_nil mixed)
  refine pure_of_aw b_slices_Concat_int_int ?_
  rintro xs r objs ⟨Ls, rfl, h0, h1, h2, rfl, rfl⟩ -
  have hrl := length_rowsL Ls
  have hfl := flat_all (Nat.le_refl Ls.length)
  refine ⟨by simp, vc2_sound hR _ _ _ _ _ ?_⟩
  conv => whnf
  repeat' ((first | contradiction | (refine And.intro (fun hb => ?_) (fun hb => ?_) <;> first | contradiction | ((try simp only [SB, reduceCtorEq] at hb); try (exfalso; first | contradiction | omega))) | refine G2 ?_ | rw [ints_at (by omega)] | rw [ints_at0 (by omega)] | rw [ints_at' (by omega) (by omega)] | refine G1 ?_ | fail) <;> conv => whnf)
  refine Lp.intro (α := Nat) (fun i => i ≤ Ls.length) (fun i => Ls.length - i) (fun i => [(0, .val (rowsL Ls)), (3, .int .i64 ((flat Ls i).length : Nat)), (9, .val (rowsL Ls)), (10, .int .i64 Ls.length), (11, .int .i64 i)]) (fun _ => []) ?_ ?_
  · refine ⟨0, by omega, [], rfl, rfl, trivial, ?_⟩
    exact ⟨.inl rfl, .inl rfl, .inl rfl, .inl (congrArg (fun x : Nat => AV.int .i64 x) hrl), .inl rfl, trivial⟩
  intro i hi
  have hlf := flat_le (Ls := Ls) hi
  rw [hfl] at hlf
  refine vc2_sound hR _ _ _ _ _ ?_
  by_cases hlt : i < Ls.length
  · have hs := congrArg List.length (flat_succ hlt)
    have hlf2 := flat_le (Ls := Ls) (show i + 1 ≤ Ls.length by omega)
    rw [hfl, hs, List.length_append] at hlf2
    rw [List.length_append] at hs
    have hil := length_ints (Ls.getD i [])
    conv => whnf
    repeat' ((first | contradiction | (refine And.intro (fun hb => ?_) (fun hb => ?_) <;> first | contradiction | ((try simp only [SB, reduceCtorEq] at hb); try (exfalso; first | contradiction | omega))) | refine G2 ?_ | rw [ints_at (by omega)] | rw [ints_at0 (by omega)] | rw [ints_at' (by omega) (by omega)] | refine G1 ?_ | rw [rowsL_at hlt] | fail) <;> conv => whnf)
    refine ⟨i + 1, by omega, by omega, [], rfl, rfl, trivial, ?_⟩
    exact ⟨.inl rfl, .inl (congrArg (AV.int .i64) (by (try dsimp only); omega)), .inl rfl, .inl rfl, .inl rfl, trivial⟩
  obtain rfl : i = Ls.length := by omega
  rw [hfl]
  conv => whnf
  repeat' ((first | contradiction | (refine And.intro (fun hb => ?_) (fun hb => ?_) <;> first | contradiction | ((try simp only [SB, reduceCtorEq] at hb); try (exfalso; first | contradiction | omega))) | refine G2 ?_ | rw [ints_at (by omega)] | rw [ints_at0 (by omega)] | rw [ints_at' (by omega) (by omega)] | refine G1 ?_ | refine ⟨GGrow_mk (n := Ls.flatten.length) (by omega) ?_⟩ | fail) <;> conv => whnf)
  refine Lp.intro (α := Nat × List (List AV)) (fun c => c.1 ≤ Ls.length ∧ c.2.take (flat Ls c.1).length = ints (flat Ls c.1) ∧ (flat Ls c.1).length ≤ c.2.length ∧ (0 < c.1 → c.2 = ints (flat Ls c.1))) (fun c => Ls.length - c.1) (fun c => [(6, .ref 0 0 (flat Ls c.1).length), (25, .val (rowsL Ls)), (26, .int .i64 Ls.length), (27, .int .i64 c.1)]) (fun c => [some (.arr 1 c.2)]) ?_ ?_
  · refine ⟨(0, List.replicate Ls.flatten.length [.int .i64 0]), ⟨Nat.zero_le _, rfl, Nat.zero_le _, fun h => by simp at h⟩, [some 0], rfl, rfl, And.intro (And.intro rfl rfl) trivial, ?_⟩
    exact ⟨rfl, .inl rfl, .inl (congrArg (fun x : Nat => AV.int .i64 x) hrl), .inl rfl, trivial⟩
  rintro ⟨i, X⟩ ⟨hi, hX, hXl, hX1⟩
  dsimp only at hi hX hXl hX1 ⊢
  have hlf := flat_le (Ls := Ls) hi
  rw [hfl] at hlf
  refine vc2_sound hR _ _ _ _ _ ?_
  by_cases hlt : i < Ls.length
  · have hs := congrArg List.length (flat_succ hlt)
    have hlf2 := flat_le (Ls := Ls) (show i + 1 ≤ Ls.length by omega)
    rw [hfl, hs, List.length_append] at hlf2
    rw [List.length_append] at hs
    have hil := length_ints (Ls.getD i [])
    conv => whnf
    repeat' ((first | contradiction | (refine And.intro (fun hb => ?_) (fun hb => ?_) <;> first | contradiction | ((try simp only [SB, reduceCtorEq] at hb); try (exfalso; first | contradiction | omega))) | refine G2 ?_ | rw [ints_at (by omega)] | rw [ints_at0 (by omega)] | rw [ints_at' (by omega) (by omega)] | refine G1 ?_ | rw [rowsL_at hlt] | refine And.intro ints_ones ?_ | fail) <;> conv => whnf)
    have hnew : List.take (flat Ls i).length X ++ ints (Ls.getD i []) = ints (flat Ls (i + 1)) := by rw [hX, flat_succ hlt]; simp [ints]
    refine ⟨(i + 1, ints (flat Ls (i + 1))), ⟨hlt, List.take_of_length_le (by simp [ints]), by simp [ints], fun _ => rfl⟩, by dsimp only; omega, [some 1], rfl, rfl, And.intro (And.intro rfl hnew) trivial, ?_⟩
    exact ⟨congrArg (AV.ref 1 0) (by (try dsimp only); omega), .inl rfl, .inl rfl, .inl rfl, trivial⟩
  · obtain rfl : i = Ls.length := by omega
    conv => whnf
    repeat' ((first | contradiction | (refine And.intro (fun hb => ?_) (fun hb => ?_) <;> first | contradiction | ((try simp only [SB, reduceCtorEq] at hb); try (exfalso; first | contradiction | omega))) | refine G2 ?_ | rw [ints_at (by omega)] | rw [ints_at0 (by omega)] | rw [ints_at' (by omega) (by omega)] | refine G1 ?_ | fail) <;> conv => whnf)
    refine ⟨.inl rfl, ?_⟩
    conv => whnf
    have e := hX1 h0
    subst e
    rw [hfl]
    exact ⟨[some 0], ⟨rfl, And.intro (And.intro rfl rfl) trivial⟩, rfl, rfl, by simp [AObj.nov, ints_nov]⟩
/-! ### the word -/
theorem autoR_lt {a : AutoD} {X : Nat} : autoR a X < 2 ^ 31 := bitsOf_lt
noncomputable def goodE (a : AutoD) (i : Nat) : Prop :=
  (a.edges.getD i default).mark = true ∧ (autoR a a.start.toNat).testBit (a.edges.getD i default).src.toNat = true ∧ (pathW a (2 ^ (a.edges.getD i default).dst.toNat) (a.edges.getD i default).src.toNat).2 = true
noncomputable def wordE (a : AutoD) (i : Nat) : List Int × List Int :=
  (natsI (pathW a a.start.toNat (a.edges.getD i default).src.toNat).1, (a.edges.getD i default).letter :: natsI (pathW a (2 ^ (a.edges.getD i default).dst.toNat) (a.edges.getD i default).src.toNat).1)
open Classical in
noncomputable def autoW (a : AutoD) : (List Int × List Int) × Bool :=
  if h : ∃ i, i < a.edges.length ∧ goodE a i then (wordE a (Classical.choose (least _ h)), true) else (([], []), false)
theorem autoW_at {a : AutoD} {i : Nat} (hi : i < a.edges.length) (h : goodE a i) (hn : ∀ j, j < i → ¬ goodE a j) : autoW a = (wordE a i, true) := by
  have hex : ∃ i, i < a.edges.length ∧ goodE a i := ⟨i, hi, h⟩
  unfold autoW
  rw [dif_pos hex]
  obtain ⟨g1, g2⟩ := Classical.choose_spec (least _ hex)
  have := g2 i ⟨hi, h⟩
  rcases Nat.lt_or_ge (Classical.choose (least _ hex)) i with g | g
  · exact absurd g1.2 (hn _ g)
  · rw [show Classical.choose (least _ hex) = i by omega]
theorem autoW_none {a : AutoD} (hn : ∀ j, j < a.edges.length → ¬ goodE a j) : autoW a = (([], []), false) := by
  unfold autoW
  rw [dif_neg (fun ⟨i, h1, h2⟩ => hn i h1 h2)]
theorem hno_word {a : AutoD} {i : Nat} {w : (List Int × List Int) × Bool} (hn : ∀ j, j < i → ¬ goodE a j) (hi : i < a.edges.length) (hw : autoW a = w) : goodE a i → w = (wordE a i, true) := fun h => by rw [← hw, autoW_at hi h hn]
theorem no_next {a : AutoD} {i : Nat} (hn : ∀ j, j < i → ¬ goodE a j) (h : ¬ goodE a i) : ∀ j, j < i + 1 → ¬ goodE a j := fun j hj => by
  by_cases hji : j = i
  · subst hji; exact h
  · exact hn j (by omega)
theorem edge_key {a : AutoD} {i : Nat} {w : (List Int × List Int) × Bool} {e : EdgeD} (he : a.edges.getD i default = e) (hn : ∀ j, j < i → ¬ goodE a j) (hi : i < a.edges.length) (hw : autoW a = w) :
    (e.mark = true → (autoR a a.start.toNat).testBit e.src.toNat = true → (pathW a (2 ^ e.dst.toNat) e.src.toNat).2 = true →
      w = ((natsI (pathW a a.start.toNat e.src.toNat).1, e.letter :: natsI (pathW a (2 ^ e.dst.toNat) e.src.toNat).1), true)) ∧
    (e.mark = false ∨ (autoR a a.start.toNat).testBit e.src.toNat = false ∨ (pathW a (2 ^ e.dst.toNat) e.src.toNat).2 = false → ∀ j, j < i + 1 → ¬ goodE a j) := by
  subst he
  refine ⟨fun h1 h2 h3 => hno_word hn hi hw ⟨h1, h2, h3⟩, fun h => no_next hn ?_⟩
  rintro ⟨h1, h2, h3⟩
  rcases h with h | h | h
  · rw [h1] at h; cases h
  · rw [h2] at h; cases h
  · rw [h3] at h; cases h
theorem path_ok {a : AutoD} (ha : AutoOk a) {s t : Nat} (hs : s < a.states.toNat) (ht : t < a.states.toNat) : (pathW a (2 ^ s) t).2 = true ↔ Rel1 (EA a) s t := by
  have hb : ∀ p, p ∈ bitL (2 ^ s) (farT a t).length ↔ p = s := fun p => by
    rw [mem_bitL, farT_len, Nat.testBit_two_pow, decide_eq_true_eq]
    exact ⟨fun h => h.2.symm, fun h => ⟨by omega, h.symm⟩⟩
  have h1 : (pathW a (2 ^ s) t).2 = true ↔ 0 ≤ best (farT a t) (bitL (2 ^ s) (farT a t).length) := by
    unfold pathW
    by_cases h : best (farT a t) (bitL (2 ^ s) (farT a t).length) < 0
    · rw [if_pos h]
      exact ⟨fun h2 => by simp at h2, fun h2 => by omega⟩
    · rw [if_neg h]
      exact ⟨fun _ => by omega, fun _ => rfl⟩
  have h2 : 0 ≤ best (farT a t) (bitL (2 ^ s) (farT a t).length) ↔ 0 ≤ (farT a t).getD s 0 := by
    constructor
    · intro h
      obtain ⟨p, g1, g2⟩ := best_mem h
      obtain rfl := (hb p).1 g1
      omega
    · intro h
      exact (best_le ((hb s).2 rfl) h).1
  rw [h1, h2, farT_at hs]
  constructor
  · intro h
    rcases dist_cases (AE a) (· ∈ [t]) s with c | c
    · omega
    · have hr := walk_rch c.2.1
      have hr2 : Rel1 (AE a) t s := hr.mono fun x hx => .base (by simpa using hx)
      exact hr2.turn
  · intro h
    have hr : Rel1 (AE a) t s := h.turn
    obtain ⟨k, hk⟩ := rch_walk hr
    rcases dist_cases (AE a) (· ∈ [t]) s with c | c
    · refine absurd (c.2 k) (fun hc => hc ?_)
      have : (fun x => x ∈ [t]) = (fun x : Nat => x = t) := by funext x; simp
      rw [this]
      exact hk
    · exact c.1
def wordR (w : (List Int × List Int) × Bool) : AV := .tup [.agg [.ref 0 0 w.1.1.length, .ref 1 0 w.1.2.length], .bool w.2]
def wordO (w : (List Int × List Int) × Bool) : List AObj := [.arr 1 (ints w.1.1), .arr 1 (ints w.1.2)]
def RAWord (xs : List AV) (r : AV) (objs : List AObj) : Prop := ∃ a, xs = [.agg (autoRow a)] ∧ r = (if AutoOk a then wordR (autoW a) else wordR (([], []), false)) ∧ objs = (if AutoOk a then wordO (autoW a) else wordO (([], []), false))
theorem snap_res {l : List Int} {n : Nat} (hn : n = l.length) : (AV.ref 0 0 n).snap (objsH [.arr 1 (ints l)]) = .val (ints l) := snap_all rfl (by rw [length_ints, hn])
theorem arg3 {x : AV} {y z y' z' : Int} (h1 : y = y') (h2 : z = z') : [x, .int .i64 y, .int .i64 z] = [x, .int .i64 y', .int .i64 z'] := by rw [h1, h2]
theorem pwOf_len {a : AutoD} {F : List Int} {b X : Nat} : (pwOf a F b X).length ≤ b := by
  unfold pwOf
  split
  · rename_i h
    obtain ⟨_, g⟩ := Classical.choose_spec h
    have := g.len
    omega
  · exact Nat.zero_le _
theorem path_len {a : AutoD} (ha : AutoOk a) {X t : Nat} (ht : t < a.states.toNat) : (pathW a X t).1.length ≤ 31 := by
  have := best_lt ha (X := X) ht
  unfold pathW
  split
  · exact Nat.zero_le _
  · exact Nat.le_trans pwOf_len (by omega)
theorem path_rows {a : AutoD} (ha : AutoOk a) {X t : Nat} (ht : t < a.states.toNat) : (ints (natsI (pathW a X t).1)).length ≤ 31 := by
  rw [length_ints, length_natsI]; exact path_len ha ht
theorem start_lt {a : AutoD} (ha : AutoOk a) : a.start.toNat < 2 ^ a.states.toNat := by
  have h := ha.1.2.2
  have h2 := natPow a.states.toNat
  omega
set_option maxHeartbeats 8000000 in
theorem s_spec_AutoWord : PureSound Try.prog 58 RAWord := by
  have hR : Rely Try.prog (ctxOf [(38, .pure RAutoOk), (142, .pure RReachS), (73, .pure RHas), (123, .pure RBit), (143, .pure RPathS)]) :=
    rely_cons b_spec_AutoOk.has s_spec_AutoOk (rely_cons b_spec_l4Reach.has s_spec_l4Reach (rely_cons b_spec_l1Has.has s_spec_l1Has (rely_cons b_spec_l1Bit.has s_spec_l1Bit (rely_cons b_spec_PathWord.has s_spec_PathWord (rely_nil mixed)))))
  refine pure_of_aw b_spec_AutoWord ?_
  rintro xs r objs ⟨a, rfl, rfl, rfl⟩ -
  refine ⟨by simp, vc2_sound hR _ _ _ _ _ ?_⟩
  by_cases ha : AutoOk a
  · have hs := ha.1.2.1
    have hlet := ha.1.1
    have hst := ha.1.2.2
    have hsl := start_lt ha
    have es : a.start = ((a.start.toNat : Nat) : Int) := by omega
    rw [if_pos ha, if_pos ha]
    generalize hw : autoW a = w
    have hle := length_edgeRows a.edges
    have hl := ha.2.1
    conv => whnf
    repeat' ((first | contradiction | (refine And.intro (fun hb => ?_) (fun hb => ?_) <;> first | contradiction | ((try simp only [SB, reduceCtorEq] at hb); try (exfalso; first | contradiction | omega))) | refine G2 ?_ | rw [ints_at (by omega)] | rw [ints_at0 (by omega)] | rw [ints_at' (by omega) (by omega)] | refine G1 ?_ | refine ⟨_, _, RAutoOk_mk, ?_⟩ | refine ⟨_, _, RReachS_eq (congrArg (fun z => [AV.agg (autoRow a), AV.int .i64 z]) es) ha hsl, ?_⟩ | fail) <;> conv => whnf)
    refine Lp.intro (α := Nat) (fun i => i ≤ a.edges.length ∧ ∀ j, j < i → ¬ goodE a j) (fun i => a.edges.length - i) (fun i => [(1, .rptr (autoRow a) 0), (2, .ptr 0 0 0), (4, .int .i64 ((autoR a a.start.toNat : Nat) : Int)), (5, .int .i64 i)]) (fun _ => [some (.box [.snil, .snil])]) ?_ ?_
    · refine ⟨0, ⟨Nat.zero_le _, fun j hj => by omega⟩, [some 1], rfl, rfl, And.intro ⟨.inl rfl, .inl rfl, trivial⟩ trivial, ?_⟩
      exact ⟨.inr rfl, rfl, .inl rfl, .inl rfl, trivial⟩
    rintro i ⟨hi, hno⟩
    refine vc2_sound hR _ _ _ _ _ ?_
    by_cases hlt : i < a.edges.length
    · have he := edge_in ha hlt
      have hat := edge_at hlt
      unfold EdgeIn at he
      generalize hee : a.edges.getD i default = e at *
      obtain ⟨k1, k2⟩ := edge_key hee hno hlt hw
      have es1 : e.src = ((e.src.toNat : Nat) : Int) := by omega
      have hb2 : 2 ^ e.dst.toNat < 2 ^ a.states.toNat := Nat.pow_lt_pow_right (by decide) (by omega)
      have hp1 := path_rows ha (X := 2 ^ e.dst.toNat) (t := e.src.toNat) (by omega)
      have hp2 := path_len ha (X := 2 ^ e.dst.toNat) (t := e.src.toNat) (by omega)
      conv => whnf
      repeat' ((first | contradiction | (refine And.intro (fun hb => ?_) (fun hb => ?_) <;> first | contradiction | ((try simp only [SB, reduceCtorEq] at hb); try (exfalso; first | contradiction | omega))) | refine G2 ?_ | rw [ints_at (by omega)] | rw [ints_at0 (by omega)] | rw [ints_at' (by omega) (by omega)] | refine G1 ?_ | refine And.intro ints_ones ?_ | rw [hat] | refine ⟨_, _, RHas_mk autoR_lt (by omega) (by omega), ?_⟩ | refine ⟨_, _, RBit_mk (by omega) (by omega), ?_⟩ | refine ⟨_, _, RPathS_eq (congrArg (fun z => [AV.agg (autoRow a), AV.int .i64 ((2 ^ e.dst.toNat : Nat) : Int), AV.int .i64 z]) es1) ha hb2 (by omega), ?_⟩ | refine ⟨_, _, RPathS_eq (arg3 es es1) ha hsl (by omega), ?_⟩ | rw [snap_res (length_natsI _).symm] | fail) <;> conv => whnf)
      · obtain rfl := k1 (by assumption) (by assumption) (by assumption)
        refine ⟨.inl rfl, ?_⟩
        conv => whnf
        refine ⟨by simp, [some 2, some 4], ⟨rfl, And.intro (And.intro rfl rfl) (And.intro (And.intro rfl rfl) trivial)⟩, ⟨⟨congrArg (AV.ref 2 0) (length_natsI _).symm, congrArg (AV.ref 4 0) ?_, trivial⟩, .inl rfl, trivial⟩, rfl, ?_⟩
        · rw [length_ints, List.length_cons]; omega
        · simp [wordO, AObj.nov, ints_nov]
      · obtain rfl := k1 (by assumption) (by assumption) (by assumption)
        refine ⟨.inl rfl, ?_⟩
        conv => whnf
        refine ⟨by simp, [some 2, some 4], ⟨rfl, And.intro (And.intro rfl rfl) (And.intro (And.intro rfl rfl) trivial)⟩, ⟨⟨congrArg (AV.ref 2 0) (length_natsI _).symm, congrArg (AV.ref 4 0) ?_, trivial⟩, .inl rfl, trivial⟩, rfl, ?_⟩
        · rw [length_ints, List.length_cons]; omega
        · simp [wordO, AObj.nov, ints_nov]
      all_goals
        refine ⟨i + 1, ⟨hlt, k2 ?_⟩, by omega, [some 0], rfl, rfl, And.intro ⟨.inl rfl, .inl rfl, trivial⟩ trivial, ?_⟩
        · first | exact .inl (by assumption) | exact .inr (.inl (by assumption)) | exact .inr (.inr (by assumption))
        · exact ⟨.inl rfl, rfl, .inl rfl, .inl rfl, trivial⟩
    · conv => whnf
      repeat' ((first | contradiction | (refine And.intro (fun hb => ?_) (fun hb => ?_) <;> first | contradiction | ((try simp only [SB, reduceCtorEq] at hb); try (exfalso; first | contradiction | omega))) | refine G2 ?_ | rw [ints_at (by omega)] | rw [ints_at0 (by omega)] | rw [ints_at' (by omega) (by omega)] | refine G1 ?_ | fail) <;> conv => whnf)
      rw [autoW_none (fun j hj => hno j (by omega))] at hw
      subst hw
      refine ⟨.inl rfl, ?_⟩
      conv => whnf
      exact ⟨Nat.le_refl 2, [none, none], ⟨rfl, And.intro rfl (And.intro rfl trivial)⟩, ⟨⟨⟨rfl, rfl, rfl⟩, ⟨rfl, rfl, rfl⟩, trivial⟩, .inl rfl, trivial⟩, rfl, rfl⟩
  · rw [if_neg ha, if_neg ha]
    conv => whnf
    repeat' ((first | contradiction | (refine And.intro (fun hb => ?_) (fun hb => ?_) <;> first | contradiction | ((try simp only [SB, reduceCtorEq] at hb); try (exfalso; first | contradiction | omega))) | refine G2 ?_ | rw [ints_at (by omega)] | rw [ints_at0 (by omega)] | rw [ints_at' (by omega) (by omega)] | refine G1 ?_ | refine ⟨_, _, RAutoOk_mk, ?_⟩ | fail) <;> conv => whnf)
    refine ⟨.inl rfl, ?_⟩
    conv => whnf
    exact ⟨Nat.le_refl 2, [none, none], ⟨rfl, And.intro rfl (And.intro rfl trivial)⟩, ⟨⟨⟨rfl, rfl, rfl⟩, ⟨rfl, rfl, rfl⟩, trivial⟩, .inl rfl, trivial⟩, rfl, rfl⟩
end Go.Proofs.Ythanhknkoikbfaa.Ct
