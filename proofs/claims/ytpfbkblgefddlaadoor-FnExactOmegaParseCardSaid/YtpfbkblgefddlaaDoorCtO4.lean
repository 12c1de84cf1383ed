/- Formulas read from text: what the program's LtlParse tells. -/
import Derived.Test.YtpfbkblgefddlaaDoorCtO3
namespace Go.Proofs.YtpfbkblgefddlaaDoor.Ct
set_option linter.unusedSimpArgs false
set_option linter.unusedVariables false
open Go Go.Proofs Go.Proofs.YtpfbkblgefddlaaDoor.Av

def c_slices_Clip_impl_Node_impl_Node : ICode := (.seq (.reg [⟨(some 2), .mv, [(.c .snil)], none⟩]) (.seq (.reg [⟨(some 3), .mv, [(.t 0)], none⟩, ⟨(some 4), .mv, [(.t 0)], none⟩, ⟨(some 5), .len, [(.t 4)], none⟩, ⟨(some 6), .mv, [(.t 0)], none⟩, ⟨(some 7), .len, [(.t 6)], none⟩, ⟨(some 8), (.slc3 3), [(.t 3), (.t 5), (.t 7)], none⟩, ⟨(some 2), .mv, [(.t 8)], none⟩]) .ret))
theorem b_slices_Clip_impl_Node_impl_Node : Body Tryd.prog 28 9 c_slices_Clip_impl_Node_impl_Node [(.t 2)] := body_mk Tryd.func28 (by kernel_rfl) (by decide)

def c_impl_parsed : ICode := (.seq (.reg [⟨(some 4), .mv, [(.c .snil)], none⟩, ⟨(some 5), .mv, [(.c (.int .i64 0))], none⟩, ⟨(some 6), .mv, [(.c (.int .i64 0))], none⟩]) (.seq (.seq (.reg [⟨(some 8), .mv, [(.t 0)], none⟩, ⟨(some 9), .lens, [(.t 8)], none⟩, ⟨(some 10), (.bin .gtr), [(.t 9), (.c (.int .i64 200))], none⟩]) (.cond (.t 10) (.seq (.reg [⟨(some 4), .mv, [(.c .snil)], none⟩, ⟨(some 5), .mv, [(.c (.int .i64 0))], none⟩, ⟨(some 6), .mv, [(.c (.int .i64 1))], none⟩]) .ret) .skip)) (.seq (.reg [⟨(some 11), .mv, [(.t 0)], none⟩, ⟨(some 12), (.bld [(.str []), (.int .i64 0), (.int .i64 0), .snil, .fnil] [(0, 1)]), [(.t 11)], none⟩, ⟨(some 13), (.box 5), [(.t 12)], none⟩, ⟨(some 7), .mv, [(.t 13)], none⟩]) (.seq (.reg [⟨(some 14), .mv, [(.t 1)], none⟩, ⟨(some 15), .mv, [(.t 7)], none⟩, ⟨(some 16), .dyn, [(.t 14), (.t 15)], none⟩]) (.seq (.block 0 (.seq (.reg [⟨(some 18), .mv, [(.t 7)], none⟩, ⟨(some 19), .nck, [(.t 18)], none⟩, ⟨(some 20), (.fadr 2), [(.t 19)], none⟩, ⟨(some 21), .ld1, [(.t 20)], none⟩, ⟨(some 22), (.bin .neq), [(.t 21), (.c (.int .i64 0))], none⟩, ⟨(some 17), .mv, [(.t 22)], none⟩]) (.cond (.t 17) (.seq (.drw [⟨(some 23), .mv, [(.t 7)], none⟩, ⟨(some 24), .nck, [(.t 23)], none⟩, ⟨(some 25), (.fadr 1), [(.t 24)], none⟩, ⟨(some 26), .ld1, [(.t 25)], none⟩, ⟨(some 27), .mv, [(.t 7)], none⟩, ⟨(some 28), .nck, [(.t 27)], none⟩, ⟨(some 29), (.fadr 2), [(.t 28)], none⟩, ⟨(some 30), .ld1, [(.t 29)], none⟩, ⟨(some 4), .mv, [(.c .snil)], none⟩, ⟨(some 5), .mv, [(.t 26)], none⟩, ⟨(some 6), .mv, [(.t 30)], none⟩] [[], [0], [0, 1], [0, 1, 2], [], [4], [4, 5], [4, 5, 6], [], [0, 1, 2, 3, 8], [0, 1, 2, 3, 4, 5, 6, 7, 8, 9]] true true) .ret) (.seq (.reg [⟨(some 32), .mv, [(.t 7)], none⟩, ⟨(some 33), .nck, [(.t 32)], none⟩, ⟨(some 34), (.fadr 1), [(.t 33)], none⟩, ⟨(some 35), .ld1, [(.t 34)], none⟩, ⟨(some 36), .mv, [(.t 0)], none⟩, ⟨(some 37), .lens, [(.t 36)], none⟩, ⟨(some 38), (.bin .lss), [(.t 35), (.t 37)], none⟩, ⟨(some 31), .mv, [(.t 38)], none⟩]) (.cond (.t 31) (.seq (.drw [⟨(some 39), .mv, [(.t 7)], none⟩, ⟨(some 40), .nck, [(.t 39)], none⟩, ⟨(some 41), (.fadr 1), [(.t 40)], none⟩, ⟨(some 42), .ld1, [(.t 41)], none⟩, ⟨(some 4), .mv, [(.c .snil)], none⟩, ⟨(some 5), .mv, [(.t 42)], none⟩, ⟨(some 6), .mv, [(.c (.int .i64 5))], none⟩] [[], [0], [0, 1], [0, 1, 2], [], [0, 1, 2, 3, 4], [0, 1, 2, 3, 4, 5]] true true) .ret) (.seq (.reg [⟨(some 44), .mv, [(.t 7)], none⟩, ⟨(some 45), .nck, [(.t 44)], none⟩, ⟨(some 46), (.fadr 3), [(.t 45)], none⟩, ⟨(some 47), .ld1, [(.t 46)], none⟩, ⟨(some 48), .len, [(.t 47)], none⟩, ⟨(some 49), (.bin .gtr), [(.t 48), (.c (.int .i64 31))], none⟩, ⟨(some 43), .mv, [(.t 49)], none⟩]) (.cond (.t 43) (.seq (.reg [⟨(some 4), .mv, [(.c .snil)], none⟩, ⟨(some 5), .mv, [(.c (.int .i64 0))], none⟩, ⟨(some 6), .mv, [(.c (.int .i64 4))], none⟩]) .ret) .skip))))))) (.seq (.reg [⟨(some 50), .mv, [(.t 7)], none⟩, ⟨(some 51), .nck, [(.t 50)], none⟩, ⟨(some 52), (.fadr 3), [(.t 51)], none⟩, ⟨(some 53), .ld1, [(.t 52)], none⟩, ⟨(some 54), (.call 28), [(.t 53)], none⟩, ⟨(some 55), .mv, [(.t 0)], none⟩, ⟨(some 56), .lens, [(.t 55)], none⟩, ⟨(some 4), .mv, [(.t 54)], none⟩, ⟨(some 5), .mv, [(.t 56)], none⟩, ⟨(some 6), .mv, [(.c (.int .i64 0))], none⟩]) .ret))))))
theorem b_impl_parsed : Body Tryd.prog 20 57 c_impl_parsed [(.t 4), (.t 5), (.t 6)] := body_mk Tryd.func20 (by kernel_rfl) (by decide)

def c_impl_ReParse : ICode := (.seq (.reg [⟨(some 2), .mv, [(.c .snil)], none⟩, ⟨(some 3), .mv, [(.c (.int .i64 0))], none⟩, ⟨(some 4), .mv, [(.c (.int .i64 0))], none⟩]) (.seq (.reg [⟨(some 5), .mv, [(.t 0)], none⟩, ⟨(some 6), (.call 20), [(.t 5), (.c (.fn 21 []))], none⟩, ⟨(some 7), (.ext 0), [(.t 6)], none⟩, ⟨(some 8), (.ext 1), [(.t 6)], none⟩, ⟨(some 9), (.ext 2), [(.t 6)], none⟩, ⟨(some 2), .mv, [(.t 7)], none⟩, ⟨(some 3), .mv, [(.t 8)], none⟩, ⟨(some 4), .mv, [(.t 9)], none⟩]) .ret))
theorem b_impl_ReParse : Body Tryd.prog 13 10 c_impl_ReParse [(.t 2), (.t 3), (.t 4)] := body_mk Tryd.func13 (by kernel_rfl) (by decide)


def GClip : GFun := fun xs objs Q => ∃ (n : Nat) (rows : List (List AV)), xs = [.ref 0 0 n] ∧ objs = [.arr 3 rows] ∧ n ≤ rows.length ∧ Q (.ref 0 0 n) [some (.arr 3 rows)]
theorem GClip_mk {n : Nat} {rows : List (List AV)} {Q : AV → List (Option AObj) → Prop} (h : n ≤ rows.length) (hq : Q (.ref 0 0 n) [some (.arr 3 rows)]) : GClip [.ref 0 0 n] [.arr 3 rows] Q := ⟨n, rows, rfl, rfl, h, hq⟩

theorem s_Clip : GenSound Tryd.prog 28 1 GClip := by
  have hR : Rely Tryd.prog (ctxOf []) := rely_nil mixed
  refine gen_of_aw b_slices_Clip_impl_Node_impl_Node ?_
  rintro xs objs Q - ⟨n, rows, rfl, rfl, hn, hq⟩ -
  refine ⟨by simp, vc2_sound hR _ _ _ _ _ ?_⟩
  conv => whnf
  repeat' ((first
    | (refine And.intro (fun hb => ?_) (fun hb => ?_) <;> ((try simp only [SB, reduceCtorEq] at hb); try (exfalso; omega)))
    | refine And.intro rfl ?_
    | refine ⟨_, IntWalk.i64_in _ (by omega), ?_⟩
    | rw [ints_at (by omega)]
    | rw [ints_at0 (by omega)]
    | rw [ints_at' (by omega) (by omega)]
    | refine And.intro (lens_all rfl) ?_
    | refine And.intro (show _ ≤ _ ∧ (_ + 1) * _ ≤ _ ∧ _ + 1 ≤ _ by first | omega | (simp; omega)) ?_
    | refine And.intro (show 1 * _ ≤ _ ∧ 1 ≤ _ by omega) ?_
    | refine And.intro (by first | omega | (simp; omega) | (show _ ∧ _; simp; done)) ?_
    | fail) <;> conv => whnf)
  refine ⟨.inl rfl, ?_⟩
  conv => whnf
  exact ⟨[some 0], .ref 0 0 n, [some (.arr 3 rows)], ⟨rfl, And.intro (And.intro rfl rfl) trivial⟩, rfl, rfl, hq⟩

def parseR (q : PR) : AV := .tup [if q.c = 0 then .ref 0 0 q.l.length else .snil, .int .i64 q.p, .int .i64 q.c]
def parseO (q : PR) : List AObj := if q.c = 0 then [.arr 3 (nodeRows q.l)] else []
def RParsed (xs : List AV) (r : AV) (objs : List AObj) : Prop := ∃ s, xs = [.str s, .fn 21 []] ∧ r = parseR (parseE s) ∧ objs = parseO (parseE s)
theorem RParsed_bad {s : List UInt8} (h : (parseE s).c ≠ 0) : RParsed [.str s, .fn 21 []] (.tup [.snil, .int .i64 (parseE s).p, .int .i64 (parseE s).c]) [] := ⟨s, rfl, by unfold parseR; rw [if_neg h], by unfold parseO; rw [if_neg h]⟩
theorem RParsed_ok {s : List UInt8} (h : (parseE s).c = 0) : RParsed [.str s, .fn 21 []] (.tup [.ref 0 0 (parseE s).l.length, .int .i64 (parseE s).p, .int .i64 (parseE s).c]) [.arr 3 (nodeRows (parseE s).l)] := ⟨s, rfl, by unfold parseR; rw [if_pos h], by unfold parseO; rw [if_pos h]⟩

set_option maxHeartbeats 4000000 in
theorem s_impl_parsed : PureSound Tryd.prog 20 RParsed := by
  have hR : Rely Tryd.prog (ctxOf [(21, .gen 2 (GRd 1607 0)), (28, .gen 1 GClip)]) :=
    rely_cons b_impl_reSum.has (s_all 1607).1 (rely_cons b_slices_Clip_impl_Node_impl_Node.has s_Clip (rely_nil mixed))
  refine pure_of_aw b_impl_parsed ?_
  rintro xs r objs ⟨s, rfl, rfl, rfl⟩ -
  refine ⟨by simp, ?_⟩
  refine Aw.meet (α := Unit) (fun _ => True) (fun _ => [(0, .str s), (1, .fn 21 [])]) (fun _ => []) ?_ ?_
  · refine vc2_sound hR _ _ _ _ _ ?_
    conv => whnf
    repeat' ((first
      | (refine And.intro (fun hb => ?_) (fun hb => ?_) <;> ((try simp only [SB, reduceCtorEq] at hb); try (exfalso; omega)))
      | refine And.intro rfl ?_
      | refine ⟨_, IntWalk.i64_in _ (by omega), ?_⟩
      | rw [ints_at (by omega)]
      | rw [ints_at0 (by omega)]
      | rw [ints_at' (by omega) (by omega)]
      | refine And.intro (lens_all rfl) ?_
      | refine And.intro (show _ ≤ _ ∧ (_ + 1) * _ ≤ _ ∧ _ + 1 ≤ _ by first | omega | (simp; omega)) ?_
      | refine And.intro (show 1 * _ ≤ _ ∧ 1 ≤ _ by omega) ?_
      | refine And.intro (by first | omega | (simp; omega) | (show _ ∧ _; simp; done)) ?_
      | fail) <;> conv => whnf)
    refine ⟨(), trivial, [], rfl, rfl, trivial, ?_⟩
    repeat' (first
      | exact trivial
      | refine ⟨?_, ?_⟩
      | fail)
    all_goals first
      | with_reducible rfl
      | (conv => whnf
         try left
         conv => lhs; whnf
         first
           | rfl
           | exact congrArg (AV.int .i64) (by omega)
           | skip)
  rintro _ -
  refine Aw.meet (α := Unit) (fun _ => s.length ≤ 200) (fun _ => [(0, .str s), (1, .fn 21 [])]) (fun _ => []) ?_ ?_
  · refine vc2_sound hR _ _ _ _ _ ?_
    conv => whnf
    repeat' ((first
      | (refine And.intro (fun hb => ?_) (fun hb => ?_) <;> ((try simp only [SB, reduceCtorEq] at hb); try (exfalso; omega)))
      | refine And.intro rfl ?_
      | refine ⟨_, IntWalk.i64_in _ (by omega), ?_⟩
      | rw [ints_at (by omega)]
      | rw [ints_at0 (by omega)]
      | rw [ints_at' (by omega) (by omega)]
      | refine And.intro (lens_all rfl) ?_
      | refine And.intro (show _ ≤ _ ∧ (_ + 1) * _ ≤ _ ∧ _ + 1 ≤ _ by first | omega | (simp; omega)) ?_
      | refine And.intro (show 1 * _ ≤ _ ∧ 1 ≤ _ by omega) ?_
      | refine And.intro (by first | omega | (simp; omega) | (show _ ∧ _; simp; done)) ?_
      | fail) <;> conv => whnf)
    · have e : parseE s = ⟨0, 1, []⟩ := by unfold parseE; rw [if_pos (by omega)]
      rw [e]
      refine ⟨.inl rfl, ?_⟩
      conv => whnf
      refine ⟨[], ⟨rfl, trivial⟩, ?_, rfl, rfl⟩
      repeat' (first | exact trivial | refine And.intro ?_ ?_)
      all_goals
        conv => whnf
        left
        conv => lhs; whnf
      all_goals rfl
    · refine ⟨(), by omega, [], rfl, rfl, trivial, ?_⟩
      repeat' (first
        | exact trivial
        | refine ⟨?_, ?_⟩
        | fail)
      all_goals first
        | with_reducible rfl
        | (conv => whnf
           try left
           conv => lhs; whnf
           first
             | rfl
             | exact congrArg (AV.int .i64) (by omega)
             | skip)
  rintro _ hs
  refine Aw.meet (α := Unit) (fun _ => True) (fun _ => [(0, .str s), (1, .fn 21 []), (7, .ptr 0 0 0)]) (fun _ => [some (rdO s 0 0 1 0), some (.arr 3 [])]) ?_ ?_
  · refine vc2_sound hR _ _ _ _ _ ?_
    conv => whnf
    repeat' ((first
      | (refine And.intro (fun hb => ?_) (fun hb => ?_) <;> ((try simp only [SB, reduceCtorEq] at hb); try (exfalso; omega)))
      | refine And.intro rfl ?_
      | refine ⟨_, IntWalk.i64_in _ (by omega), ?_⟩
      | rw [ints_at (by omega)]
      | rw [ints_at0 (by omega)]
      | rw [ints_at' (by omega) (by omega)]
      | refine And.intro (lens_all rfl) ?_
      | refine And.intro (show _ ≤ _ ∧ (_ + 1) * _ ≤ _ ∧ _ + 1 ≤ _ by first | omega | (simp; omega)) ?_
      | refine And.intro (show 1 * _ ≤ _ ∧ 1 ≤ _ by omega) ?_
      | refine And.intro (by first | omega | (simp; omega) | (show _ ∧ _; simp; done)) ?_
      | fail) <;> conv => whnf)
    refine ⟨(), trivial, [some 0, none], rfl, rfl, ?_, ?_⟩
    · exact And.intro (And.intro (.inl rfl) (And.intro (.inl rfl) (And.intro (.inl rfl) (And.intro ⟨rfl, rfl, rfl⟩ (And.intro (.inl rfl) trivial))))) (And.intro rfl trivial)
    · repeat' (first
        | exact trivial
        | refine ⟨?_, ?_⟩
        | fail)
      all_goals first
        | with_reducible rfl
        | (conv => whnf
           try left
           conv => lhs; whnf
           first
             | rfl
             | exact congrArg (AV.int .i64) (by omega)
             | skip)
  rintro _ -
  refine vc2_sound hR _ _ _ _ _ ?_
  conv => whnf
  repeat' ((first
    | (refine And.intro (fun hb => ?_) (fun hb => ?_) <;> ((try simp only [SB, reduceCtorEq] at hb); try (exfalso; omega)))
    | refine And.intro rfl ?_
    | refine ⟨_, IntWalk.i64_in _ (by omega), ?_⟩
    | rw [ints_at (by omega)]
    | rw [ints_at0 (by omega)]
    | rw [ints_at' (by omega) (by omega)]
    | refine And.intro (lens_all rfl) ?_
    | refine And.intro (show _ ≤ _ ∧ (_ + 1) * _ ≤ _ ∧ _ + 1 ≤ _ by first | omega | (simp; omega)) ?_
    | refine And.intro (show 1 * _ ≤ _ ∧ 1 ≤ _ by omega) ?_
    | refine And.intro (by first | omega | (simp; omega) | (show _ ∧ _; simp; done)) ?_
    | (refine ⟨GRdOf_mk (xs0 := []) (pre := fits 0 1607) (res := fun s r => rr s 1607 0 r) (PR.mk 0 0 []) (by omega) (Nat.zero_le _) (Nat.le_refl _) (by simp only [fits, need, rank]; omega) (fun q a1 a2 a3 a4 => ?_)⟩)
    | (refine ⟨GClip_mk (by rw [length_nodeRows]; exact Nat.le_refl _) ?_⟩)
    | fail) <;> conv => whnf)
  · have e : parseE s = ⟨q.p, q.c, []⟩ := by
      unfold parseE
      rw [if_neg (by omega)]
      dsimp only
      rw [if_pos (by rw [← a1.2.1]; exact hb), ← a1.1, ← a1.2.1]
    rw [e]
    unfold parseR parseO
    dsimp only
    rw [if_neg hb, if_neg hb]
    refine ⟨.inl rfl, ?_⟩
    conv => whnf
    refine ⟨[], ⟨rfl, trivial⟩, ?_, rfl, rfl⟩
    repeat' (first | exact trivial | refine And.intro ?_ ?_)
    all_goals
      conv => whnf
      left
      conv => lhs; whnf
    all_goals rfl
  · have e : parseE s = ⟨q.p, 5, []⟩ := by
      unfold parseE
      rw [if_neg (by omega), ← PR.sim_eq a1 (by assumption)]
      dsimp only
      rw [if_neg (by omega), if_pos (by omega)]
    rw [e]
    refine ⟨.inl rfl, ?_⟩
    conv => whnf
    refine ⟨[], ⟨rfl, trivial⟩, ?_, rfl, rfl⟩
    repeat' (first | exact trivial | refine And.intro ?_ ?_)
    all_goals
      conv => whnf
      left
      conv => lhs; whnf
    all_goals rfl
  · have e : parseE s = ⟨0, 4, []⟩ := by
      unfold parseE
      rw [if_neg (by omega), ← PR.sim_eq a1 (by assumption)]
      dsimp only
      rw [if_neg (by omega), if_neg (by omega), if_pos (by omega)]
    rw [e]
    refine ⟨.inl rfl, ?_⟩
    conv => whnf
    refine ⟨[], ⟨rfl, trivial⟩, ?_, rfl, rfl⟩
    repeat' (first | exact trivial | refine And.intro ?_ ?_)
    all_goals
      conv => whnf
      left
      conv => lhs; whnf
    all_goals rfl
  · have e : parseE s = ⟨s.length, 0, q.l⟩ := by
      unfold parseE
      rw [if_neg (by omega), ← PR.sim_eq a1 (by assumption)]
      dsimp only
      rw [if_neg (by omega), if_neg (by omega), if_neg (by omega)]
    rw [e]
    refine ⟨.inl rfl, ?_⟩
    conv => whnf
    refine ⟨[some 2], ⟨rfl, And.intro (And.intro rfl rfl) trivial⟩, And.intro rfl (And.intro (.inl rfl) (And.intro (.inl rfl) trivial)), rfl, by simp [parseO, AObj.nov, nodeRows_nov]⟩

def RReParse (xs : List AV) (r : AV) (objs : List AObj) : Prop := ∃ s, xs = [.str s] ∧ r = parseR (parseE s) ∧ objs = parseO (parseE s)
theorem RReParse_bad {s : List UInt8} (h : (parseE s).c ≠ 0) : RReParse [.str s] (.tup [.snil, .int .i64 (parseE s).p, .int .i64 (parseE s).c]) [] := ⟨s, rfl, by unfold parseR; rw [if_neg h], by unfold parseO; rw [if_neg h]⟩
theorem RReParse_ok {s : List UInt8} (h : (parseE s).c = 0) : RReParse [.str s] (.tup [.ref 0 0 (parseE s).l.length, .int .i64 (parseE s).p, .int .i64 (parseE s).c]) [.arr 3 (nodeRows (parseE s).l)] := ⟨s, rfl, by unfold parseR; rw [if_pos h], by unfold parseO; rw [if_pos h]⟩

theorem s_impl_ReParse : PureSound Tryd.prog 13 RReParse := by
  have hR : Rely Tryd.prog (ctxOf [(20, .pure RParsed)]) := rely_cons b_impl_parsed.has s_impl_parsed (rely_nil mixed)
  refine pure_of_aw b_impl_ReParse ?_
  rintro xs r objs ⟨s, rfl, rfl, rfl⟩ -
  refine ⟨by simp, vc2_sound hR _ _ _ _ _ ?_⟩
  by_cases h : (parseE s).c = 0
  · conv => whnf
    repeat' ((first
      | (refine And.intro (fun hb => ?_) (fun hb => ?_) <;> ((try simp only [SB, reduceCtorEq] at hb); try (exfalso; omega)))
      | refine And.intro rfl ?_
      | refine ⟨_, IntWalk.i64_in _ (by omega), ?_⟩
      | rw [ints_at (by omega)]
      | rw [ints_at0 (by omega)]
      | rw [ints_at' (by omega) (by omega)]
      | refine And.intro (lens_all rfl) ?_
      | refine And.intro (show _ ≤ _ ∧ (_ + 1) * _ ≤ _ ∧ _ + 1 ≤ _ by first | omega | (simp; omega)) ?_
      | refine And.intro (show 1 * _ ≤ _ ∧ 1 ≤ _ by omega) ?_
      | refine And.intro (by first | omega | (simp; omega) | (show _ ∧ _; simp; done)) ?_
      | refine ⟨_, _, RParsed_ok h, ?_⟩
      | fail) <;> conv => whnf)
    unfold parseR parseO
    rw [if_pos h, if_pos h]
    refine ⟨.inl rfl, ?_⟩
    conv => whnf
    exact ⟨[some 0], ⟨rfl, And.intro (And.intro rfl rfl) trivial⟩, And.intro rfl (And.intro (.inl rfl) (And.intro (.inl rfl) trivial)), rfl, by simp [AObj.nov, nodeRows_nov]⟩
  · conv => whnf
    repeat' ((first
      | (refine And.intro (fun hb => ?_) (fun hb => ?_) <;> ((try simp only [SB, reduceCtorEq] at hb); try (exfalso; omega)))
      | refine And.intro rfl ?_
      | refine ⟨_, IntWalk.i64_in _ (by omega), ?_⟩
      | rw [ints_at (by omega)]
      | rw [ints_at0 (by omega)]
      | rw [ints_at' (by omega) (by omega)]
      | refine And.intro (lens_all rfl) ?_
      | refine And.intro (show _ ≤ _ ∧ (_ + 1) * _ ≤ _ ∧ _ + 1 ≤ _ by first | omega | (simp; omega)) ?_
      | refine And.intro (show 1 * _ ≤ _ ∧ 1 ≤ _ by omega) ?_
      | refine And.intro (by first | omega | (simp; omega) | (show _ ∧ _; simp; done)) ?_
      | refine ⟨_, _, RParsed_bad h, ?_⟩
      | fail) <;> conv => whnf)
    unfold parseR parseO
    rw [if_neg h, if_neg h]
    refine ⟨.inl rfl, ?_⟩
    conv => whnf
    refine ⟨[], ⟨rfl, trivial⟩, ?_, rfl, rfl⟩
    repeat' (first | exact trivial | refine And.intro ?_ ?_)
    all_goals
      conv => whnf
      left
      conv => lhs; whnf
    all_goals rfl

end Go.Proofs.YtpfbkblgefddlaaDoor.Ct
