/- Rings: the program's. -/
import Derived.Test.YtpfbkblgefddlaaCtFin
namespace Go.Proofs.Ytpfbkblgefddlaa.Ct
set_option linter.unusedSimpArgs false
set_option linter.unusedVariables false
open Go Go.Proofs Go.Proofs.Ytpfbkblgefddlaa.Av Go.Proofs.Ytpfbkblgefddlaa.Pl

def c_slices_Reverse_int_int : ICode := (.seq (.reg [⟨(some 4), .mv, [(.t 0)], none⟩, ⟨(some 5), .len, [(.t 4)], none⟩, ⟨(some 6), (.bin .sub), [(.t 5), (.c (.int .i64 1))], none⟩, ⟨(some 2), .mv, [(.c (.int .i64 0))], none⟩, ⟨(some 3), .mv, [(.t 6)], none⟩]) (.block 0 (.loop (.seq (.seq (.reg [⟨(some 7), .mv, [(.t 2)], none⟩, ⟨(some 8), .mv, [(.t 3)], none⟩, ⟨(some 9), (.bin .lss), [(.t 7), (.t 8)], none⟩]) (.cond (.t 9) .skip (.exit 0))) (.seq (.block 1 (.drw [⟨(some 14), .mv, [(.t 0)], none⟩, ⟨(some 15), .mv, [(.t 2)], none⟩, ⟨(some 16), .mv, [(.t 0)], none⟩, ⟨(some 17), .mv, [(.t 3)], none⟩, ⟨(some 18), .mv, [(.t 0)], none⟩, ⟨(some 19), .mv, [(.t 3)], none⟩, ⟨(some 20), (.iadr 1), [(.t 18), (.t 19)], none⟩, ⟨(some 21), .ld1, [(.t 20)], none⟩, ⟨(some 22), .mv, [(.t 0)], none⟩, ⟨(some 23), .mv, [(.t 2)], none⟩, ⟨(some 24), (.iadr 1), [(.t 22), (.t 23)], none⟩, ⟨(some 25), .ld1, [(.t 24)], none⟩, ⟨(some 26), (.iadr 1), [(.t 14), (.t 15)], none⟩, ⟨none, (.st 1), [(.t 26), (.t 21)], none⟩, ⟨(some 27), (.iadr 1), [(.t 16), (.t 17)], none⟩, ⟨none, (.st 1), [(.t 27), (.t 25)], none⟩] [[], [], [], [], [], [], [4, 5], [4, 5, 6], [], [], [8, 9], [8, 9, 10], [0, 1, 4, 5, 6, 7, 8, 9, 10, 11], [0, 1, 4, 5, 6, 7, 8, 9, 10, 11, 12], [0, 1, 2, 3, 4, 5, 6, 7, 8, 9, 10, 11, 12, 13], [0, 1, 2, 3, 4, 5, 6, 7, 8, 9, 10, 11, 12, 13, 14]] true true)) (.reg [⟨(some 10), .mv, [(.t 2)], none⟩, ⟨(some 11), (.bin .add), [(.t 10), (.c (.int .i64 1))], none⟩, ⟨(some 12), .mv, [(.t 3)], none⟩, ⟨(some 13), (.bin .sub), [(.t 12), (.c (.int .i64 1))], none⟩, ⟨(some 2), .mv, [(.t 11)], none⟩, ⟨(some 3), .mv, [(.t 13)], none⟩]))))))
theorem b_slices_Reverse_int_int : Body Try.prog 163 28 c_slices_Reverse_int_int [] := body_mk Try.func163 (by kernel_rfl) (by decide)

def c_impl_graph_rings : ICode := (.seq (.reg [⟨(some 2), .mv, [(.c .snil)], none⟩]) (.seq (.reg [⟨(some 13), .mv, [(.t 0)], none⟩, ⟨(some 14), (.call 161), [(.t 13)], none⟩, ⟨(some 3), .mv, [(.t 14)], none⟩]) (.seq (.reg [⟨(some 15), .mv, [(.t 0)], none⟩, ⟨(some 16), (.call 162), [(.t 15)], none⟩, ⟨(some 4), .mv, [(.t 16)], none⟩]) (.seq (.reg [⟨(some 17), .mv, [(.t 0)], none⟩, ⟨(some 18), .nck, [(.t 17)], none⟩, ⟨(some 19), (.fadr 0), [(.t 18)], none⟩, ⟨(some 20), .ld1, [(.t 19)], none⟩, ⟨(some 21), .len, [(.t 20)], none⟩, ⟨(some 22), (.mks 1 8 [(.int .i64 0)]), [(.t 21), (.t 21)], none⟩, ⟨(some 5), .mv, [(.t 22)], none⟩]) (.seq (.seq (.reg [⟨(some 23), .mv, [(.t 5)], none⟩, ⟨(some 24), .len, [(.t 23)], none⟩, ⟨(some 25), .mv, [(.c (.int .i64 0))], none⟩]) (.block 0 (.loop (.seq (.reg [⟨(some 26), (.bin .lss), [(.t 25), (.t 24)], none⟩]) (.seq (.cond (.t 26) .skip (.exit 0)) (.seq (.block 1 (.seq (.reg [⟨(some 27), .mv, [(.t 25)], none⟩, ⟨(some 6), .mv, [(.t 27)], none⟩]) (.reg [⟨(some 28), .mv, [(.t 5)], none⟩, ⟨(some 29), .mv, [(.t 6)], none⟩, ⟨(some 30), (.iadr 1), [(.t 28), (.t 29)], none⟩, ⟨none, (.st 1), [(.t 30), (.c (.int .i64 (-1)))], none⟩]))) (.reg [⟨(some 31), (.bin .add), [(.t 25), (.c (.int .i64 1))], none⟩, ⟨(some 25), .mv, [(.t 31)], none⟩]))))))) (.seq (.reg [⟨(some 32), .mv, [(.t 3)], none⟩, ⟨(some 33), (.call 163), [(.t 32)], none⟩]) (.seq (.seq (.reg [⟨(some 34), .mv, [(.t 3)], none⟩, ⟨(some 35), .len, [(.t 34)], none⟩, ⟨(some 36), .mv, [(.c (.int .i64 0))], none⟩]) (.block 2 (.loop (.seq (.reg [⟨(some 37), (.bin .lss), [(.t 36), (.t 35)], none⟩]) (.seq (.cond (.t 37) .skip (.exit 2)) (.seq (.block 3 (.seq (.reg [⟨(some 38), .mv, [(.t 36)], none⟩, ⟨(some 39), (.iadr 1), [(.t 34), (.t 36)], none⟩, ⟨(some 40), .ld1, [(.t 39)], none⟩, ⟨(some 7), .mv, [(.t 38)], none⟩, ⟨(some 8), .mv, [(.t 40)], none⟩]) (.seq (.seq (.reg [⟨(some 41), .mv, [(.t 5)], none⟩, ⟨(some 42), .mv, [(.t 8)], none⟩, ⟨(some 43), (.iadr 1), [(.t 41), (.t 42)], none⟩, ⟨(some 44), .ld1, [(.t 43)], none⟩, ⟨(some 45), (.bin .geq), [(.t 44), (.c (.int .i64 0))], none⟩]) (.cond (.t 45) (.exit 3) .skip)) (.seq (.reg [⟨(some 46), .mv, [(.t 5)], none⟩, ⟨(some 47), .mv, [(.t 8)], none⟩, ⟨(some 48), .mv, [(.t 7)], none⟩, ⟨(some 49), (.iadr 1), [(.t 46), (.t 47)], none⟩, ⟨none, (.st 1), [(.t 49), (.t 48)], none⟩]) (.seq (.reg [⟨(some 50), .mv, [(.t 8)], none⟩, ⟨(some 51), (.bsl 1), [(.t 50)], none⟩, ⟨(some 9), .mv, [(.t 51)], none⟩]) (.block 4 (.loop (.seq (.seq (.reg [⟨(some 52), .mv, [(.t 9)], none⟩, ⟨(some 53), .len, [(.t 52)], none⟩, ⟨(some 54), (.bin .gtr), [(.t 53), (.c (.int .i64 0))], none⟩]) (.cond (.t 54) .skip (.exit 4))) (.block 5 (.seq (.reg [⟨(some 55), .mv, [(.t 9)], none⟩, ⟨(some 56), .mv, [(.t 9)], none⟩, ⟨(some 57), .len, [(.t 56)], none⟩, ⟨(some 58), (.bin .sub), [(.t 57), (.c (.int .i64 1))], none⟩, ⟨(some 59), (.iadr 1), [(.t 55), (.t 58)], none⟩, ⟨(some 60), .ld1, [(.t 59)], none⟩, ⟨(some 10), .mv, [(.t 60)], none⟩]) (.seq (.reg [⟨(some 61), .mv, [(.t 9)], none⟩, ⟨(some 62), .mv, [(.t 9)], none⟩, ⟨(some 63), .len, [(.t 62)], none⟩, ⟨(some 64), (.bin .sub), [(.t 63), (.c (.int .i64 1))], none⟩, ⟨(some 65), (.slc 1 false true), [(.t 61), (.t 64)], none⟩, ⟨(some 9), .mv, [(.t 65)], none⟩]) (.seq (.reg [⟨(some 66), .mv, [(.t 4)], none⟩, ⟨(some 67), .nck, [(.t 66)], none⟩, ⟨(some 68), (.fadr 0), [(.t 67)], none⟩, ⟨(some 69), .ld1, [(.t 68)], none⟩, ⟨(some 70), .mv, [(.t 10)], none⟩, ⟨(some 71), (.iadr 1), [(.t 69), (.t 70)], none⟩, ⟨(some 72), .ld1, [(.t 71)], none⟩, ⟨(some 73), .len, [(.t 72)], none⟩, ⟨(some 74), .mv, [(.c (.int .i64 0))], none⟩]) (.block 6 (.loop (.seq (.reg [⟨(some 75), (.bin .lss), [(.t 74), (.t 73)], none⟩]) (.seq (.cond (.t 75) .skip (.exit 6)) (.seq (.block 7 (.seq (.reg [⟨(some 76), (.iadr 2), [(.t 72), (.t 74)], none⟩, ⟨(some 77), (.ldn 2), [(.t 76)], none⟩, ⟨(some 12), (.alc [(.int .i64 0), (.int .i64 0)]), [], none⟩, ⟨none, (.st 2), [(.t 12), (.t 77)], none⟩]) (.seq (.reg [⟨(some 78), .mv, [(.t 5)], none⟩, ⟨(some 79), (.fadr 0), [(.t 12)], none⟩, ⟨(some 80), .ld1, [(.t 79)], none⟩, ⟨(some 81), (.iadr 1), [(.t 78), (.t 80)], none⟩, ⟨(some 82), .ld1, [(.t 81)], none⟩, ⟨(some 83), (.bin .lss), [(.t 82), (.c (.int .i64 0))], none⟩]) (.cond (.t 83) (.seq (.reg [⟨(some 84), .mv, [(.t 5)], none⟩, ⟨(some 85), (.fadr 0), [(.t 12)], none⟩, ⟨(some 86), .ld1, [(.t 85)], none⟩, ⟨(some 87), .mv, [(.t 7)], none⟩, ⟨(some 88), (.iadr 1), [(.t 84), (.t 86)], none⟩, ⟨none, (.st 1), [(.t 88), (.t 87)], none⟩]) (.reg [⟨(some 89), .mv, [(.t 9)], none⟩, ⟨(some 90), (.fadr 0), [(.t 12)], none⟩, ⟨(some 91), .ld1, [(.t 90)], none⟩, ⟨(some 92), (.bslv 1), [(.t 91)], none⟩, ⟨(some 93), (.app 1 8), [(.t 89), (.t 92)], none⟩, ⟨(some 9), .mv, [(.t 93)], none⟩])) .skip)))) (.reg [⟨(some 94), (.bin .add), [(.t 74), (.c (.int .i64 1))], none⟩, ⟨(some 74), .mv, [(.t 94)], none⟩])))))))))))))))))) (.reg [⟨(some 95), (.bin .add), [(.t 36), (.c (.int .i64 1))], none⟩, ⟨(some 36), .mv, [(.t 95)], none⟩]))))))) (.seq (.reg [⟨(some 96), .mv, [(.t 5)], none⟩, ⟨(some 2), .mv, [(.t 96)], none⟩]) .ret))))))))
theorem b_impl_graph_rings : Body Try.prog 116 97 c_impl_graph_rings [(.t 2)] := body_mk Try.func116 (by kernel_rfl) (by decide)


def GReverse : GFun := fun xs objs Q => ∃ l n, xs = [.ref 0 0 n] ∧ objs = [.arr 1 (ints l)] ∧ l.length = n ∧ n ≤ 1000000 ∧ Q (.tup []) [some (.arr 1 (ints l.reverse))]
theorem GReverse_mk {l : List Int} {n : Nat} {Q : AV → List (Option AObj) → Prop} (h : l.length = n) (h1 : n ≤ 1000000) (hq : Q (.tup []) [some (.arr 1 (ints l.reverse))]) : GReverse [.ref 0 0 n] [.arr 1 (ints l)] Q := ⟨l, n, rfl, rfl, h, h1, hq⟩

theorem ints_setI {d : List Int} {i : Int} {v : Int} : (ints d).set (0 + i.toNat) [.int .i64 v] = ints (d.set i.toNat v) := by
  rw [Nat.zero_add]
  simp [ints, List.map_set]
theorem ints_atI {xs : List Int} {i : Int} (h0 : 0 ≤ i) (h : i < xs.length) : (ints xs)[0 + i.toNat]? = some [.int .i64 (xs.getD i.toNat 0)] := by
  rw [Nat.zero_add]
  exact ints_at' h0 h

set_option maxHeartbeats 4000000 in
theorem s_slices_Reverse : GenSound Try.prog 163 1 GReverse := by
  have hR : Rely Try.prog (ctxOf []) := rely_nil mixed
  refine gen_of_aw b_slices_Reverse_int_int ?_
  rintro xs objs Q - ⟨l, n, rfl, rfl, rfl, hn, hq⟩ -
  refine ⟨by simp, vc2_sound hR _ _ _ _ _ ?_⟩
  conv => whnf
  repeat' ((first
    | contradiction
    | (refine And.intro (fun hb => ?_) (fun hb => ?_) <;> first | contradiction | ((try simp only [SB, reduceCtorEq] at hb); try (exfalso; first | contradiction | omega)))
    | refine And.intro rfl ?_
    | refine ⟨_, IntWalk.i64_in _ (by omega), ?_⟩
    | rw [ints_at (by omega)]
    | rw [ints_at0 (by omega)]
    | rw [ints_at' (by omega) (by omega)]
    | refine And.intro (lens_all rfl) ?_
    | refine And.intro (show _ ≤ _ ∧ (_ + 1) * _ ≤ _ ∧ _ + 1 ≤ _ by first | omega | (simp; omega)) ?_
    | refine And.intro (show 1 * _ ≤ _ ∧ 1 ≤ _ by omega) ?_
    | refine And.intro (by first | omega | (simp; omega) | (show _ ∧ _; simp; done)) ?_
    | fail) <;> conv => whnf)
  refine Lp.intro (α := Nat) (fun i => 2 * i ≤ l.length + 1) (fun i => l.length + 2 - i) (fun i => [(0, .ref 0 0 l.length), (2, .int .i64 i), (3, .int .i64 ((l.length : Int) - 1 - i))]) (fun i => [some (.arr 1 (ints (revI l i)))]) ?_ ?_
  · refine ⟨0, by omega, [some 0], rfl, rfl, And.intro (And.intro rfl ?_) trivial, ?_⟩
    · rw [revI_zero]
    · repeat' (first
        | exact trivial
        | refine ⟨?_, ?_⟩
        | fail)
      all_goals first
        | with_reducible rfl
        | (conv => whnf
           try left
           conv => lhs; whnf
           first
             | rfl
             | exact congrArg (AV.int .i64) (by omega)
             | skip)
  · intro i hi
    have hrl := length_revI (l := l) (i := i)
    have hil := length_ints (revI l i)
    refine vc2_sound hR _ _ _ _ _ ?_
    by_cases hlt : 2 * i + 1 < l.length
    · conv => whnf
      repeat' ((first
        | contradiction
        | (refine And.intro (fun hb => ?_) (fun hb => ?_) <;> first | contradiction | ((try simp only [SB, reduceCtorEq] at hb); try (exfalso; first | contradiction | omega)))
        | refine And.intro rfl ?_
        | refine ⟨_, IntWalk.i64_in _ (by omega), ?_⟩
        | rw [ints_at (by omega)]
        | rw [ints_at0 (by omega)]
        | rw [ints_at' (by omega) (by omega)]
        | refine And.intro (lens_all rfl) ?_
        | refine And.intro (show _ ≤ _ ∧ (_ + 1) * _ ≤ _ ∧ _ + 1 ≤ _ by first | omega | (simp; omega)) ?_
        | refine And.intro (show 1 * _ ≤ _ ∧ 1 ≤ _ by omega) ?_
        | refine And.intro (by first | omega | (simp; omega) | (show _ ∧ _; simp; done)) ?_
        | (rw [ints_atI (by omega) (by (try simp only [List.length_set]); omega)])
        | rw [ints_setI]
        | fail) <;> conv => whnf)
      refine ⟨i + 1, by omega, by omega, [some 0], rfl, rfl, And.intro (And.intro rfl ?_) trivial, ?_⟩
      · rw [← revI_step hlt rfl]
        have e : ((l.length : Int) - 1 - (i : Int)).toNat = l.length - 1 - i := by omega
        rw [e]
        rfl
      · exact ⟨rfl, .inl rfl, .inl (congrArg (AV.int .i64) (by omega)), trivial⟩
    · conv => whnf
      repeat' ((first
        | contradiction
        | (refine And.intro (fun hb => ?_) (fun hb => ?_) <;> first | contradiction | ((try simp only [SB, reduceCtorEq] at hb); try (exfalso; first | contradiction | omega)))
        | refine And.intro rfl ?_
        | refine ⟨_, IntWalk.i64_in _ (by omega), ?_⟩
        | rw [ints_at (by omega)]
        | rw [ints_at0 (by omega)]
        | rw [ints_at' (by omega) (by omega)]
        | refine And.intro (lens_all rfl) ?_
        | refine And.intro (show _ ≤ _ ∧ (_ + 1) * _ ≤ _ ∧ _ + 1 ≤ _ by first | omega | (simp; omega)) ?_
        | refine And.intro (show 1 * _ ≤ _ ∧ 1 ≤ _ by omega) ?_
        | refine And.intro (by first | omega | (simp; omega) | (show _ ∧ _; simp; done)) ?_
        | fail) <;> conv => whnf)
      refine ⟨.inr rfl, ?_⟩
      conv => whnf
      refine ⟨[some 0], .tup [], [some (.arr 1 (ints l.reverse))], ⟨rfl, And.intro (And.intro rfl ?_) trivial⟩, trivial, rfl, hq⟩
      rw [revI_end (by omega)]

/-! ### rings -/

def GRings : GFun := fun xs objs Q => ∃ (G : GraphD), xs = [.rptr [.val (gRows G)] 0] ∧ objs = [] ∧ GOk G ∧ G.length ≤ 100000 ∧ steps G ≤ 1000000000 ∧ ∀ out, IsRings (Adj G) G.length out → Q (.ref 0 0 G.length) [some (.arr 1 (ints out))]
theorem GRings_mk {G : GraphD} {Q : AV → List (Option AObj) → Prop} (h : GOk G) (h1 : G.length ≤ 100000) (h2 : steps G ≤ 1000000000) (hq : ∀ out, IsRings (Adj G) G.length out → Q (.ref 0 0 G.length) [some (.arr 1 (ints out))]) :
    GRings [.rptr [.val (gRows G)] 0] [] Q := ⟨G, rfl, rfl, h, h1, h2, hq⟩

theorem len_mkG (l : List Trip) (n : Nat) : ∀ k, k ≤ n → (allWays (mkG n l) k).length = (l.filter fun e => decide (e.1 < k)).length := by
  intro k
  induction k with
  | zero =>
    intro _
    have e : (l.filter fun e => decide (e.1 < 0)) = [] := List.filter_eq_nil_iff.2 (by simp)
    rw [e]; simp [allWays]
  | succ k ih =>
    intro hk
    rw [allWays_succ, List.length_append, ih (by omega), ways_len, mkG_at (by omega), List.length_map, ← List.countP_eq_length_filter, ← List.countP_eq_length_filter, ← List.countP_eq_length_filter]
    clear ih hk
    induction l with
    | nil => rfl
    | cons e r ihr =>
      simp only [List.countP_cons]
      by_cases h1 : e.1 < k
      · have h2 : ¬ e.1 = k := by omega
        have h3 : e.1 < k + 1 := by omega
        simp [h1, h2, h3]; omega
      · by_cases h2 : e.1 = k
        · have h3 : e.1 < k + 1 := by omega
          simp [h1, h2]; omega
        · have h3 : ¬ e.1 < k + 1 := by omega
          simp [h1, h2, h3]; omega
theorem steps_mkG {n : Nat} {l : List Trip} : steps (mkG n l) ≤ l.length := by
  unfold steps
  rw [length_mkG, len_mkG l n n (Nat.le_refl _)]
  exact List.length_filter_le _ _
theorem steps_back {G : GraphD} (h : GOk G) : steps (backG G) = steps G := by
  unfold steps
  have e : (backG G).length = G.length := length_mkG _ _
  rw [e]
  unfold backG
  rw [len_mkG _ _ _ (Nat.le_refl _), List.filter_eq_self.2]
  rintro ⟨x, t, m⟩ he
  simpa using h t _ (mem_allWays.1 he).2

theorem last_ix {α : Type} {x : α} {l : List α} : 0 + ((((l ++ [x]).length : Nat) : Int) - 1).toNat = l.length := by simp
theorem last_at {p : Nat} {l J : List Nat} : (ints (natsI ((l ++ [p]) ++ J)))[0 + ((((l ++ [p]).length : Nat) : Int) - 1).toNat]? = some [.int .i64 ((p : Nat) : Int)] := by
  rw [last_ix]
  simp [ints, natsI]
theorem cut_last {α : Type} {x : α} {l : List α} {m : Nat} : AV.ref m (0 + (0 : Int).toNat) (((((l ++ [x]).length : Nat) : Int) - 1) - 0).toNat = AV.ref m 0 l.length := by simp
theorem natsI_app2 {l J : List Nat} {p : Nat} : List.take l.length (ints (natsI (l ++ J))) ++ [[.int .i64 ((p : Nat) : Int)]] = ints (natsI ((l ++ [p]) ++ [])) := by
  have e : ints (natsI (l ++ J)) = ints (natsI l) ++ ints (natsI J) := by simp [ints, natsI]
  rw [e, List.take_append_of_le_length (by simp [ints]), List.take_of_length_le (by simp [ints])]
  simp [ints, natsI]

set_option maxHeartbeats 8000000 in
theorem s_impl_rings : GenSound Try.prog 116 0 GRings := by
  have hR : Rely Try.prog (ctxOf [(161, .gen 0 GFin), (162, .pure RBack), (163, .gen 1 GReverse)]) :=
    rely_cons b_impl_graph_finished.has s_impl_finished (rely_cons b_impl_graph_back.has s_impl_back (rely_cons b_slices_Reverse_int_int.has s_slices_Reverse (rely_nil mixed)))
  refine gen_of_aw b_impl_graph_rings ?_
  rintro xs objs Q - ⟨G, rfl, rfl, hG, hn, hst, hq⟩ -
  have hle := length_gRows G
  have hbk := gok_back hG
  have hN : ∀ p, p < G.length → ∀ r ∈ nb G p, r < G.length := fun p _ r hr => (adj_lt hG (nb_adj.1 hr)).2
  have hbl : (backG G).length = G.length := length_mkG _ _
  have hst2 := steps_back hG
  refine ⟨by simp, vc2_sound hR _ _ _ _ _ ?_⟩
  conv => whnf
  repeat' ((first
    | contradiction
    | (refine And.intro (fun hb => ?_) (fun hb => ?_) <;> first | contradiction | ((try simp only [SB, reduceCtorEq] at hb); try (exfalso; first | contradiction | omega)))
    | refine And.intro rfl ?_
    | refine ⟨_, IntWalk.i64_in _ (by omega), ?_⟩
    | rw [ints_at (by omega)]
    | rw [ints_at0 (by omega)]
    | rw [ints_at' (by omega) (by omega)]
    | refine And.intro (lens_all rfl) ?_
    | refine And.intro (show _ ≤ _ ∧ (_ + 1) * _ ≤ _ ∧ _ + 1 ≤ _ by first | omega | (simp; omega)) ?_
    | refine And.intro (show 1 * _ ≤ _ ∧ 1 ≤ _ by omega) ?_
    | refine And.intro (by first | omega | (simp; omega) | (show _ ∧ _; simp; done)) ?_
    | rw [hle]
    | refine ⟨GFin_mk hG hn hst (fun ord hord => ?_)⟩
    | refine ⟨_, _, RBack_eq rfl hG hn hst, ?_⟩
    | fail) <;> conv => whnf)
  have hol := hord.length
  refine Lp.intro (α := Nat) (fun i => i ≤ G.length) (fun i => G.length - i) (fun i => [(3, .ref 1 0 ord.length), (4, .rptr [.val (gRows (backG G))] 0), (5, .ref 0 0 G.length), (24, .int .i64 G.length), (25, .int .i64 i)]) (fun i => [some (.arr 1 (ints (List.replicate i (-1) ++ List.replicate (G.length - i) 0))), some (.arr 1 (ints (natsI ord)))]) ?_ ?_
  · refine ⟨0, by omega, [some 3, some 0], rfl, rfl, And.intro (And.intro rfl ?_) (And.intro (And.intro rfl rfl) trivial), ?_⟩
    · simp [ints]
    · exact ⟨rfl, .inr (snap_graph rfl rfl hbl.symm), rfl, .inl rfl, .inl rfl, trivial⟩
  intro i hi
  refine vc2_sound hR _ _ _ _ _ ?_
  by_cases hlt : i < G.length
  · conv => whnf
    repeat' ((first
      | contradiction
      | (refine And.intro (fun hb => ?_) (fun hb => ?_) <;> first | contradiction | ((try simp only [SB, reduceCtorEq] at hb); try (exfalso; first | contradiction | omega)))
      | refine And.intro rfl ?_
      | refine ⟨_, IntWalk.i64_in _ (by omega), ?_⟩
      | rw [ints_at (by omega)]
      | rw [ints_at0 (by omega)]
      | rw [ints_at' (by omega) (by omega)]
      | refine And.intro (lens_all rfl) ?_
      | refine And.intro (show _ ≤ _ ∧ (_ + 1) * _ ≤ _ ∧ _ + 1 ≤ _ by first | omega | (simp; omega)) ?_
      | refine And.intro (show 1 * _ ≤ _ ∧ 1 ≤ _ by omega) ?_
      | refine And.intro (by first | omega | (simp; omega) | (show _ ∧ _; simp; done)) ?_
      | rw [neg_at hlt]
      | fail) <;> conv => whnf)
    refine ⟨i + 1, by omega, by omega, [some 0, some 1], rfl, rfl, And.intro (And.intro rfl (neg_set hlt)) (And.intro (And.intro rfl rfl) trivial), ?_⟩
    repeat' (first
      | exact trivial
      | refine ⟨?_, ?_⟩
      | fail)
    all_goals first
      | with_reducible rfl
      | (conv => whnf
         try left
         conv => lhs; whnf
         first
           | rfl
           | exact congrArg (AV.int .i64) (by omega)
           | skip)
  obtain rfl : i = G.length := by omega
  have hnl := length_natsI ord
  have hrev : (natsI ord).reverse = natsI ord.reverse := by simp [natsI]
  have hrl : ord.reverse.length = ord.length := by simp
  conv => whnf
  repeat' ((first
    | contradiction
    | (refine And.intro (fun hb => ?_) (fun hb => ?_) <;> first | contradiction | ((try simp only [SB, reduceCtorEq] at hb); try (exfalso; first | contradiction | omega)))
    | refine And.intro rfl ?_
    | refine ⟨_, IntWalk.i64_in _ (by omega), ?_⟩
    | rw [ints_at (by omega)]
    | rw [ints_at0 (by omega)]
    | rw [ints_at' (by omega) (by omega)]
    | refine And.intro (lens_all rfl) ?_
    | refine And.intro (show _ ≤ _ ∧ (_ + 1) * _ ≤ _ ∧ _ + 1 ≤ _ by first | omega | (simp; omega)) ?_
    | refine And.intro (show 1 * _ ≤ _ ∧ 1 ≤ _ by omega) ?_
    | refine And.intro (by first | omega | (simp; omega) | (show _ ∧ _; simp; done)) ?_
    | refine ⟨GReverse_mk hnl (by omega) ?_⟩
    | rw [hrev]
    | fail) <;> conv => whnf)
  clear hi hlt hb
  refine Lp.intro (α := List Int × Nat) (fun a => Rings (Nb (nb G)) G.length ord.reverse a.2 a.1 ∧ a.2 ≤ ord.length) (fun a => ord.length - a.2)
    (fun a => [(4, .rptr [.val (gRows (backG G))] 0), (5, .ref 0 0 G.length), (34, .ref 1 0 ord.length), (35, .int .i64 ord.length), (36, .int .i64 a.2)]) (fun a => [some (.arr 1 (ints a.1)), some (.arr 1 (ints (natsI ord.reverse)))]) ?_ ?_
  · refine ⟨(List.replicate G.length (-1), 0), ⟨rings_start _ _ _, Nat.zero_le _⟩, [some 0, some 1], rfl, rfl, And.intro (And.intro rfl ?_) (And.intro (And.intro rfl rfl) trivial), ?_⟩
    · simp
    · exact ⟨.inl rfl, rfl, rfl, .inl rfl, .inl rfl, trivial⟩
  rintro ⟨out, k⟩ ⟨hT, hk⟩
  dsimp only at hT hk ⊢
  have hotl := hT.len
  have hil := length_ints out
  refine vc2_sound hR _ _ _ _ _ ?_
  by_cases hlt : k < ord.length
  · have hroot : ord.reverse.getD k 0 < G.length := by
      refine hord.lt _ ?_
      rw [List.getD_eq_getElem?_getD, List.getElem?_eq_getElem (by omega)]
      exact List.mem_reverse.1 (List.getElem_mem _)
    have h0k : ∀ q, q < G.length → out.getD q 0 < (k : Int) := fun p hp => by
      rcases hT.told p hp with h1 | ⟨j, h1, _, h2, _⟩ <;> omega
    generalize hrt : ord.reverse.getD k 0 = root at hroot
    conv => whnf
    repeat' ((first
      | contradiction
      | (refine And.intro (fun hb => ?_) (fun hb => ?_) <;> first | contradiction | ((try simp only [SB, reduceCtorEq] at hb); try (exfalso; first | contradiction | omega)))
      | refine And.intro rfl ?_
      | refine ⟨_, IntWalk.i64_in _ (by omega), ?_⟩
      | rw [ints_at (by omega)]
      | rw [ints_at0 (by omega)]
      | rw [ints_at' (by omega) (by omega)]
      | refine And.intro (lens_all rfl) ?_
      | refine And.intro (show _ ≤ _ ∧ (_ + 1) * _ ≤ _ ∧ _ + 1 ≤ _ by first | omega | (simp; omega)) ?_
      | refine And.intro (show 1 * _ ≤ _ ∧ 1 ≤ _ by omega) ?_
      | refine And.intro (by first | omega | (simp; omega) | (show _ ∧ _; simp; done)) ?_
      | rw [natsI_at0 (by omega)]
      | rw [hrt]
      | rw [ints_at0 (by omega)]
      | fail) <;> conv => whnf)
    · rw [hrt] at hb
      refine ⟨(out, k + 1), ⟨hT.skip (fun _ => by rw [hrt]; exact hb), hlt⟩, by dsimp only; omega, [some 0, some 1], rfl, rfl, And.intro (And.intro rfl rfl) (And.intro (And.intro rfl rfl) trivial), ?_⟩
      exact ⟨.inl rfl, rfl, rfl, .inl rfl, .inl rfl, trivial⟩
    rw [hrt] at hb
    have hb0 := hb
    have hS := ring_start (A := Nb (nb G)) (k := k) hotl hroot hb
    have hls := left_set (v := (k : Int)) (by omega : root < out.length) hb (by omega)
    have hlo : left out ≤ out.length := List.countP_le_length
    refine Lp.intro (α := List Int × List Nat × List Nat) (fun a => Ring (Nb (nb G)) G.length k root out a.1 a.2.1 none (fun _ => False) ∧ 2 * left a.1 + a.2.1.length ≤ 2 * G.length) (fun a => 2 * left a.1 + a.2.1.length)
      (fun a => [(4, .rptr [.val (gRows (backG G))] 0), (5, .ref 0 0 G.length), (7, .int .i64 k), (9, .ref 2 0 a.2.1.length), (34, .ref 1 0 ord.length), (35, .int .i64 ord.length), (36, .int .i64 k)]) (fun a => [some (.arr 1 (ints a.1)), some (.arr 1 (ints (natsI ord.reverse))), some (.arr 1 (ints (natsI (a.2.1 ++ a.2.2))))]) ?_ ?_
    · refine ⟨(out.set root k, [root], []), ⟨hS, by simp only [List.length_singleton]; omega⟩, [some 0, some 1, some 2], rfl, rfl, And.intro (And.intro rfl ints_set) (And.intro (And.intro rfl rfl) (And.intro (And.intro rfl rfl) trivial)), ?_⟩
      exact ⟨.inl rfl, rfl, .inl rfl, rfl, rfl, .inl rfl, .inl rfl, trivial⟩
    clear hS hls hlo
    rintro ⟨out', st, J⟩ ⟨hC, hM⟩
    dsimp only at hC hM ⊢
    have hsp : st = [] ∨ ∃ l p, st = l ++ [p] := by
      rcases List.eq_nil_or_concat st with h | ⟨l, p, h⟩
      · exact .inl h
      · exact .inr ⟨l, p, by rw [h, List.concat_eq_append]⟩
    have hotl' := hC.len
    have hil' := length_ints out'
    refine vc2_sound hR _ _ _ _ _ ?_
    rcases hsp with rfl | ⟨l, p, rfl⟩
    · conv => whnf
      repeat' ((first
        | contradiction
        | (refine And.intro (fun hb => ?_) (fun hb => ?_) <;> first | contradiction | ((try simp only [SB, reduceCtorEq] at hb); try (exfalso; first | contradiction | omega)))
        | refine And.intro rfl ?_
        | refine ⟨_, IntWalk.i64_in _ (by omega), ?_⟩
        | rw [ints_at (by omega)]
        | rw [ints_at0 (by omega)]
        | rw [ints_at' (by omega) (by omega)]
        | refine And.intro (lens_all rfl) ?_
        | refine And.intro (show _ ≤ _ ∧ (_ + 1) * _ ≤ _ ∧ _ + 1 ≤ _ by first | omega | (simp; omega)) ?_
        | refine And.intro (show 1 * _ ≤ _ ∧ 1 ≤ _ by omega) ?_
        | refine And.intro (by first | omega | (simp; omega) | (show _ ∧ _; simp; done)) ?_
        | fail) <;> conv => whnf)
      refine ⟨(out', k + 1), ⟨hC.fin rfl hN hord hlt hrt.symm hT hb0, hlt⟩, by dsimp only; omega, [some 0, some 1], rfl, rfl, And.intro (And.intro rfl rfl) (And.intro (And.intro rfl rfl) trivial), ?_⟩
      exact ⟨.inl rfl, rfl, rfl, .inl rfl, .inl rfl, trivial⟩
    have hD := hC.take h0k
    have hp := (hC.wait p (by simp)).1
    have hLb := steps_le (G := backG G) (i := p) (by omega)
    have hsl := length_stepRows ((backG G).getD p [])
    have hll : (l ++ [p]).length = l.length + 1 := by simp
    have hjl : (ints (natsI (l ++ [p] ++ J))).length = l.length + 1 + J.length := by rw [length_ints, length_natsI]; simp; omega
    conv => whnf
    repeat' ((first
      | contradiction
      | (refine And.intro (fun hb => ?_) (fun hb => ?_) <;> first | contradiction | ((try simp only [SB, reduceCtorEq] at hb); try (exfalso; first | contradiction | omega)))
      | refine And.intro rfl ?_
      | refine ⟨_, IntWalk.i64_in _ (by omega), ?_⟩
      | rw [ints_at (by omega)]
      | rw [ints_at0 (by omega)]
      | rw [ints_at' (by omega) (by omega)]
      | refine And.intro (lens_all rfl) ?_
      | refine And.intro (show _ ≤ _ ∧ (_ + 1) * _ ≤ _ ∧ _ + 1 ≤ _ by first | omega | (simp; omega)) ?_
      | refine And.intro (show 1 * _ ≤ _ ∧ 1 ≤ _ by omega) ?_
      | refine And.intro (by first | omega | (simp; omega) | (show _ ∧ _; simp; done)) ?_
      | rw [last_at]
      | rw [gRows_at (by omega)]
      | fail) <;> conv => whnf)
    generalize hL : (backG G).getD p [] = L at hLb hsl
    refine Lp.intro (α := List Int × List Nat × List Nat × Nat) (fun a => Ring (Nb (nb G)) G.length k root out a.1 a.2.1 (some p) (fun r => ∃ j, j < a.2.2.2 ∧ (L.getD j default).1 = r) ∧ a.2.2.2 ≤ L.length ∧ 2 * left a.1 + a.2.1.length ≤ 2 * left out' + l.length) (fun a => L.length - a.2.2.2)
      (fun a => [(4, .rptr [.val (gRows (backG G))] 0), (5, .ref 0 0 G.length), (7, .int .i64 k), (9, .ref 2 0 a.2.1.length), (34, .ref 1 0 ord.length), (35, .int .i64 ord.length), (36, .int .i64 k), (72, .val (stepRows L)), (73, .int .i64 L.length), (74, .int .i64 a.2.2.2)]) (fun a => [some (.arr 1 (ints a.1)), some (.arr 1 (ints (natsI ord.reverse))), some (.arr 1 (ints (natsI (a.2.1 ++ a.2.2.1))))]) ?_ ?_
    · refine ⟨(out', l, p :: J, 0), ⟨hD.see (fun q hq r _ _ hr => by obtain ⟨j, hj, _⟩ := hr; dsimp only at hj; omega), Nat.zero_le _, Nat.le_refl _⟩, [some 0, some 1, some 2], rfl, rfl, And.intro (And.intro rfl rfl) (And.intro (And.intro rfl rfl) (And.intro (And.intro rfl ?_) trivial)), ?_⟩
      · simp
      · subst hL
        exact ⟨.inl rfl, rfl, .inl rfl, cut_last, rfl, .inl rfl, .inl rfl, .inl rfl, .inl (congrArg (fun x : Nat => AV.int .i64 x) hsl), .inl rfl, trivial⟩
    clear hD hC hotl' hil' hjl
    rintro ⟨out2, st2, J2, j⟩ ⟨hE, hj, hm⟩
    dsimp only at hE hj hm ⊢
    have hotl' := hE.len
    have hil' := length_ints out2
    refine vc2_sound hR _ _ _ _ _ ?_
    by_cases hjl : j < L.length
    · have hmem : L.getD j default ∈ (backG G).getD p [] := by rw [hL]; exact getD_mem' hjl
      have hs : (L.getD j default).1 < G.length := by
        have := hbk p _ hmem
        omega
      have hadj : Nb (nb G) (L.getD j default).1 p := nb_adj.2 ((adj_back hG).1 ⟨(L.getD j default).2, hmem⟩)
      have hsee : ∀ {o : List Int}, 0 ≤ o.getD (L.getD j default).1 0 → ∀ q, some p = some q → ∀ r, r < G.length → Nb (nb G) r q → (∃ j', j' < j + 1 ∧ (L.getD j' default).1 = r) → (∃ j', j' < j ∧ (L.getD j' default).1 = r) ∨ 0 ≤ o.getD r 0 := by
        rintro o ho q _ r _ _ ⟨j', hj', rfl⟩
        by_cases hjj : j' = j
        · subst hjj; exact .inr ho
        · exact .inl ⟨j', by omega, rfl⟩
      have hj2 : st2.length ≤ (ints (natsI (st2 ++ J2))).length := by rw [length_ints, length_natsI]; simp
      have hst2l : st2.length ≤ 200000 := by omega
      conv => whnf
      repeat' ((first
        | contradiction
        | (refine And.intro (fun hb => ?_) (fun hb => ?_) <;> first | contradiction | ((try simp only [SB, reduceCtorEq] at hb); try (exfalso; first | contradiction | omega)))
        | refine And.intro rfl ?_
        | refine ⟨_, IntWalk.i64_in _ (by omega), ?_⟩
        | rw [ints_at (by omega)]
        | rw [ints_at0 (by omega)]
        | rw [ints_at' (by omega) (by omega)]
        | refine And.intro (lens_all rfl) ?_
        | refine And.intro (show _ ≤ _ ∧ (_ + 1) * _ ≤ _ ∧ _ + 1 ≤ _ by first | omega | (simp; omega)) ?_
        | refine And.intro (show 1 * _ ≤ _ ∧ 1 ≤ _ by omega) ?_
        | refine And.intro (by first | omega | (simp; omega) | (show _ ∧ _; simp; done)) ?_
        | rw [step_at (by omega)]
        | rw [ints_at0 (by omega)]
        | fail) <;> conv => whnf)
      · have hpush := hE.push hs hadj hb
        have hls := left_set (v := (k : Int)) (by omega : (L.getD j default).1 < out2.length) hb (by omega)
        refine ⟨(out2.set (L.getD j default).1 k, st2 ++ [(L.getD j default).1], [], j + 1), ⟨hpush.see (hsee (by rw [Pl.getD_set, if_pos ⟨rfl, by omega⟩]; omega)), hjl, by simp only [List.length_append, List.length_singleton]; omega⟩, by dsimp only; omega, [some 0, some 1, some 4], rfl, rfl, And.intro (And.intro rfl ints_set) (And.intro (And.intro rfl rfl) (And.intro (And.intro rfl natsI_app2) trivial)), ?_⟩
        exact ⟨.inl rfl, rfl, .inl rfl, congrArg (AV.ref 4 0) (by simp), rfl, .inl rfl, .inl rfl, .inl rfl, .inl rfl, .inl rfl, trivial⟩
      · refine ⟨(out2, st2, J2, j + 1), ⟨hE.see (hsee (by omega)), hjl, hm⟩, by dsimp only; omega, [some 0, some 1, some 2], rfl, rfl, And.intro (And.intro rfl rfl) (And.intro (And.intro rfl rfl) (And.intro (And.intro rfl rfl) trivial)), ?_⟩
        exact ⟨.inl rfl, rfl, .inl rfl, rfl, rfl, .inl rfl, .inl rfl, .inl rfl, .inl rfl, .inl rfl, trivial⟩
    · conv => whnf
      repeat' ((first
        | contradiction
        | (refine And.intro (fun hb => ?_) (fun hb => ?_) <;> first | contradiction | ((try simp only [SB, reduceCtorEq] at hb); try (exfalso; first | contradiction | omega)))
        | refine And.intro rfl ?_
        | refine ⟨_, IntWalk.i64_in _ (by omega), ?_⟩
        | rw [ints_at (by omega)]
        | rw [ints_at0 (by omega)]
        | rw [ints_at' (by omega) (by omega)]
        | refine And.intro (lens_all rfl) ?_
        | refine And.intro (show _ ≤ _ ∧ (_ + 1) * _ ≤ _ ∧ _ + 1 ≤ _ by first | omega | (simp; omega)) ?_
        | refine And.intro (show 1 * _ ≤ _ ∧ 1 ≤ _ by omega) ?_
        | refine And.intro (by first | omega | (simp; omega) | (show _ ∧ _; simp; done)) ?_
        | fail) <;> conv => whnf)
      refine ⟨(out2, st2, J2), ⟨hE.done (fun q hq r hr ha => ?_), by dsimp only; omega⟩, by dsimp only; omega, [some 0, some 1, some 2], rfl, rfl, And.intro (And.intro rfl rfl) (And.intro (And.intro rfl rfl) (And.intro (And.intro rfl rfl) trivial)), ?_⟩
      · cases hq
        obtain ⟨m, hm⟩ := (adj_back hG).2 (nb_adj.1 ha)
        rw [hL] at hm
        obtain ⟨j', hj', he⟩ := List.getElem_of_mem hm
        refine ⟨j', by omega, ?_⟩
        rw [List.getD_eq_getElem?_getD, List.getElem?_eq_getElem hj']
        simp [he]
      · exact ⟨.inl rfl, rfl, .inl rfl, rfl, rfl, .inl rfl, .inl rfl, trivial⟩
  · conv => whnf
    repeat' ((first
      | contradiction
      | (refine And.intro (fun hb => ?_) (fun hb => ?_) <;> first | contradiction | ((try simp only [SB, reduceCtorEq] at hb); try (exfalso; first | contradiction | omega)))
      | refine And.intro rfl ?_
      | refine ⟨_, IntWalk.i64_in _ (by omega), ?_⟩
      | rw [ints_at (by omega)]
      | rw [ints_at0 (by omega)]
      | rw [ints_at' (by omega) (by omega)]
      | refine And.intro (lens_all rfl) ?_
      | refine And.intro (show _ ≤ _ ∧ (_ + 1) * _ ≤ _ ∧ _ + 1 ≤ _ by first | omega | (simp; omega)) ?_
      | refine And.intro (show 1 * _ ≤ _ ∧ 1 ≤ _ by omega) ?_
      | refine And.intro (by first | omega | (simp; omega) | (show _ ∧ _; simp; done)) ?_
      | fail) <;> conv => whnf)
    refine ⟨.inl rfl, ?_⟩
    conv => whnf
    have hf := hT.fin hord (by omega)
    rw [nb_eq] at hf
    exact ⟨[some 0], .ref 0 0 G.length, [some (.arr 1 (ints out))], ⟨rfl, And.intro (And.intro rfl rfl) trivial⟩, rfl, rfl, hq out hf⟩

end Go.Proofs.Ytpfbkblgefddlaa.Ct
