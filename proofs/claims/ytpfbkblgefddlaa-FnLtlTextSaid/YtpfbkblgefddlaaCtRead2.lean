/- Words read from text: the reference's reading. -/
import Derived.Test.YtpfbkblgefddlaaCtRead1
namespace Go.Proofs.Ytpfbkblgefddlaa.Ct
set_option linter.unusedSimpArgs false
set_option linter.unusedVariables false
open Go Go.Proofs Go.Proofs.Ytpfbkblgefddlaa.Av

/-- a piece ahead of the first one -/
def ahead (cur : List UInt8) : List (List UInt8) → List (List UInt8)
  | [] => [cur]
  | p :: r => (cur ++ p) :: r

/-- the pieces of a text between signs c -/
def pieces (c : UInt8) : List UInt8 → List (List UInt8)
  | [] => [[]]
  | b :: r => if b = c then [] :: pieces c r else ahead [b] (pieces c r)

theorem pieces_ne (c : UInt8) (s : List UInt8) : pieces c s ≠ [] := by
  cases s with
  | nil => simp [pieces]
  | cons b r =>
    simp only [pieces]
    split
    · simp
    · cases pieces c r <;> simp [ahead]

theorem ahead_nil {l : List (List UInt8)} (h : l ≠ []) : ahead [] l = l := by
  cases l with
  | nil => exact absurd rfl h
  | cons p r => simp [ahead]

theorem ahead_ahead {a b : List UInt8} {l : List (List UInt8)} (h : l ≠ []) : ahead a (ahead b l) = ahead (a ++ b) l := by
  cases l with
  | nil => exact absurd rfl h
  | cons p r => simp [ahead]

theorem drop_cons {s : List UInt8} {i : Nat} (h : i < s.length) : s.drop i = s.getD i 0 :: s.drop (i + 1) := by
  rw [List.drop_eq_getElem_cons h]
  simp [List.getD_eq_getElem?_getD, List.getElem?_eq_getElem h]

theorem sub_snoc {s : List UInt8} {f i : Nat} (hf : f ≤ i) (h : i < s.length) : sub s f (i + 1 - f) = sub s f (i - f) ++ [s.getD i 0] := by
  unfold sub
  have e : i + 1 - f = (i - f) + 1 := by omega
  rw [e, List.take_add_one]
  have : (s.drop f)[i - f]? = some (s.getD i 0) := by
    rw [List.getElem?_drop]
    have e2 : f + (i - f) = i := by omega
    rw [e2, List.getElem?_eq_getElem h]
    simp [List.getD_eq_getElem?_getD, List.getElem?_eq_getElem h]
  rw [this]
  rfl

/-- what the cutting has told when it stands at i, the piece under way begins at f -/
def CutInv (c : UInt8) (s : List UInt8) (i : Nat) (o : List (List UInt8)) (f : Nat) : Prop :=
  f ≤ i ∧ o.length ≤ i ∧ ((i ≤ s.length ∧ pieces c s = o ++ ahead (sub s f (i - f)) (pieces c (s.drop i))) ∨ (i = s.length + 1 ∧ o = pieces c s))

theorem cut_start (c : UInt8) (s : List UInt8) : CutInv c s 0 [] 0 := by
  refine ⟨Nat.le_refl _, Nat.le_refl _, .inl ⟨Nat.zero_le _, ?_⟩⟩
  simp [sub, ahead_nil (pieces_ne c s)]

theorem cut_sign {c : UInt8} {s : List UInt8} {i : Nat} {o : List (List UInt8)} {f : Nat} (h : CutInv c s i o f) (hi : i < s.length) (hc : s.getD i 0 = c) : CutInv c s (i + 1) (o ++ [sub s f (i - f)]) (i + 1) := by
  obtain ⟨h1, h2, ⟨h3, h4⟩ | ⟨h3, _⟩⟩ := h
  · refine ⟨Nat.le_refl _, by simp; omega, .inl ⟨by omega, ?_⟩⟩
    rw [h4, drop_cons hi, pieces, if_pos hc]
    simp [ahead, sub, ahead_nil (pieces_ne _ _)]
    cases hp : pieces c (s.drop (i + 1)) with
    | nil => exact absurd hp (pieces_ne _ _)
    | cons p r => rfl
  · omega

theorem cut_other {c : UInt8} {s : List UInt8} {i : Nat} {o : List (List UInt8)} {f : Nat} (h : CutInv c s i o f) (hi : i < s.length) (hc : s.getD i 0 ≠ c) : CutInv c s (i + 1) o f := by
  obtain ⟨h1, h2, ⟨h3, h4⟩ | ⟨h3, _⟩⟩ := h
  · refine ⟨by omega, by omega, .inl ⟨by omega, ?_⟩⟩
    rw [h4, drop_cons hi, pieces, if_neg hc, ahead_ahead (pieces_ne _ _), sub_snoc h1 hi]
  · omega

theorem cut_end {c : UInt8} {s : List UInt8} {o : List (List UInt8)} {f : Nat} (h : CutInv c s s.length o f) : CutInv c s (s.length + 1) (o ++ [sub s f (s.length - f)]) (s.length + 1) := by
  obtain ⟨h1, h2, ⟨h3, h4⟩ | ⟨h3, _⟩⟩ := h
  · refine ⟨Nat.le_refl _, by simp; omega, .inr ⟨rfl, ?_⟩⟩
    rw [h4]
    simp [pieces, ahead]
  · omega

theorem str_at {s : List UInt8} {i : Nat} (h : i < s.length) : s[((i : Nat) : Int).toNat]? = some (s.getD i 0) := by
  simp [List.getElem?_eq_getElem h, List.getD_eq_getElem?_getD]

def strRow (p : List UInt8) : List AV := [.str p]

def c_spec_l12Cut : ICode := (.seq (.reg [⟨(some 4), .mv, [(.c .snil)], none⟩]) (.seq (.reg [⟨(some 8), .bsle, [], none⟩, ⟨(some 5), .mv, [(.t 8)], none⟩]) (.seq (.reg [⟨(some 6), .mv, [(.c (.int .i64 0))], none⟩]) (.seq (.seq (.reg [⟨(some 7), .mv, [(.c (.int .i64 0))], none⟩]) (.block 0 (.loop (.seq (.seq (.reg [⟨(some 9), .mv, [(.t 7)], none⟩, ⟨(some 10), .mv, [(.t 0)], none⟩, ⟨(some 11), .lens, [(.t 10)], none⟩, ⟨(some 12), (.bin .leq), [(.t 9), (.t 11)], none⟩]) (.cond (.t 12) .skip (.exit 0))) (.seq (.block 1 (.seq (.reg [⟨(some 15), .mv, [(.t 7)], none⟩, ⟨(some 16), .mv, [(.t 0)], none⟩, ⟨(some 17), .lens, [(.t 16)], none⟩, ⟨(some 18), (.bin .eql), [(.t 15), (.t 17)], none⟩, ⟨(some 19), .mv, [(.t 18)], none⟩, ⟨(some 20), .mv, [(.t 0)], (some (19, false))⟩, ⟨(some 21), .mv, [(.t 7)], (some (19, false))⟩, ⟨(some 22), .idx, [(.t 20), (.t 21)], (some (19, false))⟩, ⟨(some 23), .mv, [(.t 1)], (some (19, false))⟩, ⟨(some 24), (.bin .eql), [(.t 22), (.t 23)], (some (19, false))⟩, ⟨(some 25), .pick, [(.t 19), (.c (.bool true)), (.t 24)], none⟩]) (.cond (.t 25) (.seq (.reg [⟨(some 26), .mv, [(.t 5)], none⟩, ⟨(some 27), .mv, [(.t 0)], none⟩, ⟨(some 28), .mv, [(.t 6)], none⟩, ⟨(some 29), .mv, [(.t 7)], none⟩, ⟨(some 30), (.sls true true), [(.t 27), (.t 28), (.t 29)], none⟩, ⟨(some 31), (.bslv 1), [(.t 30)], none⟩, ⟨(some 32), (.app 1 16), [(.t 26), (.t 31)], none⟩, ⟨(some 5), .mv, [(.t 32)], none⟩]) (.reg [⟨(some 33), .mv, [(.t 7)], none⟩, ⟨(some 34), (.bin .add), [(.t 33), (.c (.int .i64 1))], none⟩, ⟨(some 6), .mv, [(.t 34)], none⟩])) .skip))) (.reg [⟨(some 13), .mv, [(.t 7)], none⟩, ⟨(some 14), (.bin .add), [(.t 13), (.c (.int .i64 1))], none⟩, ⟨(some 7), .mv, [(.t 14)], none⟩])))))) (.seq (.reg [⟨(some 35), .mv, [(.t 5)], none⟩, ⟨(some 4), .mv, [(.t 35)], none⟩]) .ret)))))
theorem b_spec_l12Cut : Body Try.prog 75 36 c_spec_l12Cut [(.t 4)] := by
  have h1 : comp Try.prog 36 (Try.f75.body.getD .skip) = some c_spec_l12Cut := by kernel_rfl
  have h2 : Try.f75.body = some (Try.f75.body.getD .skip) := by kernel_rfl
  have h3 : Try.f75.results.toList.map (cRes Try.prog) = [(some (.t 4))] := by kernel_rfl
  exact ⟨_, _, Try.func75, h2, Try.ntmps75, h1, h3, by decide⟩

def c_spec_l3Told : ICode := (.seq (.reg [⟨(some 1), (.box 2), [(.t 0)], none⟩, ⟨(some 2), (.alc [.snil, .snil]), [], none⟩, ⟨(some 3), .mv, [(.c (.bool false))], none⟩]) (.seq (.seq (.reg [⟨(some 4), (.ldn 2), [(.t 1)], none⟩, ⟨(some 5), (.call 62), [(.t 4)], none⟩, ⟨(some 6), .not, [(.t 5)], none⟩]) (.cond (.t 6) (.seq (.reg [⟨(some 7), (.bld [.snil, .snil] []), [], none⟩, ⟨none, (.st 2), [(.t 2), (.t 7)], none⟩, ⟨(some 3), .mv, [(.c (.bool false))], none⟩]) .ret) .skip)) (.seq (.reg [⟨(some 8), (.ldn 2), [(.t 1)], none⟩, ⟨none, (.st 2), [(.t 2), (.t 8)], none⟩, ⟨(some 3), .mv, [(.c (.bool true))], none⟩]) .ret)))
theorem b_spec_l3Told : Body Try.prog 76 9 c_spec_l3Told [(.cn 2 2), (.t 3)] := by
  have h1 : comp Try.prog 9 (Try.f76.body.getD .skip) = some c_spec_l3Told := by kernel_rfl
  have h2 : Try.f76.body = some (Try.f76.body.getD .skip) := by kernel_rfl
  have h3 : Try.f76.results.toList.map (cRes Try.prog) = [(some (.cn 2 2)), (some (.t 3))] := by kernel_rfl
  exact ⟨_, _, Try.func76, h2, Try.ntmps76, h1, h3, by decide⟩

def c_spec_WordRead : ICode := (.seq (.reg [⟨(some 2), (.alc [.snil, .snil]), [], none⟩, ⟨(some 3), .mv, [(.c (.bool false))], none⟩]) (.seq (.seq (.reg [⟨(some 8), .mv, [(.t 0)], none⟩, ⟨(some 9), .lens, [(.t 8)], none⟩, ⟨(some 10), (.bin .gtr), [(.t 9), (.c (.int .i64 81))], none⟩]) (.cond (.t 10) (.seq (.reg [⟨(some 11), (.bld [.snil, .snil] []), [], none⟩, ⟨none, (.st 2), [(.t 2), (.t 11)], none⟩, ⟨(some 3), .mv, [(.c (.bool false))], none⟩]) .ret) .skip)) (.seq (.reg [⟨(some 12), .mv, [(.t 0)], none⟩, ⟨(some 13), (.call 75), [(.t 12), (.c (.int .u8 59))], none⟩, ⟨(some 4), .mv, [(.t 13)], none⟩]) (.seq (.seq (.reg [⟨(some 14), .mv, [(.t 4)], none⟩, ⟨(some 15), .len, [(.t 14)], none⟩, ⟨(some 16), (.bin .neq), [(.t 15), (.c (.int .i64 2))], none⟩]) (.cond (.t 16) (.seq (.reg [⟨(some 17), (.bld [.snil, .snil] []), [], none⟩, ⟨none, (.st 2), [(.t 2), (.t 17)], none⟩, ⟨(some 3), .mv, [(.c (.bool false))], none⟩]) .ret) .skip)) (.seq (.reg [⟨(some 18), (.bld [.snil, .snil] []), [], none⟩, ⟨(some 5), (.alc [.snil, .snil]), [], none⟩, ⟨none, (.st 2), [(.t 5), (.t 18)], none⟩]) (.seq (.seq (.reg [⟨(some 6), .mv, [(.c (.int .i64 0))], none⟩]) (.block 0 (.loop (.seq (.seq (.reg [⟨(some 19), .mv, [(.t 6)], none⟩, ⟨(some 20), .mv, [(.t 4)], none⟩, ⟨(some 21), (.iadr 1), [(.t 20), (.c (.int .i64 0))], none⟩, ⟨(some 22), .ld1, [(.t 21)], none⟩, ⟨(some 23), .lens, [(.t 22)], none⟩, ⟨(some 24), (.bin .lss), [(.t 19), (.t 23)], none⟩]) (.cond (.t 24) .skip (.exit 0))) (.seq (.block 1 (.drw [⟨(some 27), (.fadr 0), [(.t 5)], none⟩, ⟨(some 28), .ld1, [(.t 27)], none⟩, ⟨(some 29), .mv, [(.t 4)], none⟩, ⟨(some 30), (.iadr 1), [(.t 29), (.c (.int .i64 0))], none⟩, ⟨(some 31), .ld1, [(.t 30)], none⟩, ⟨(some 32), .mv, [(.t 6)], none⟩, ⟨(some 33), .idx, [(.t 31), (.t 32)], none⟩, ⟨(some 34), (.cvt .i64), [(.t 33)], none⟩, ⟨(some 35), (.bin .sub), [(.t 34), (.c (.int .i64 48))], none⟩, ⟨(some 36), (.bslv 1), [(.t 35)], none⟩, ⟨(some 37), (.app 1 8), [(.t 28), (.t 36)], none⟩, ⟨(some 38), (.fadr 0), [(.t 5)], none⟩, ⟨none, (.st 1), [(.t 38), (.t 37)], none⟩] [[], [0], [], [2], [2, 3], [], [2, 3, 4, 5], [2, 3, 4, 5, 6], [2, 3, 4, 5, 6, 7], [2, 3, 4, 5, 6, 7, 8], [0, 1, 2, 3, 4, 5, 6, 7, 8, 9], [0, 1, 2, 3, 4, 5, 6, 7, 8, 9, 10], [0, 1, 2, 3, 4, 5, 6, 7, 8, 9, 10, 11]] true true)) (.reg [⟨(some 25), .mv, [(.t 6)], none⟩, ⟨(some 26), (.bin .add), [(.t 25), (.c (.int .i64 1))], none⟩, ⟨(some 6), .mv, [(.t 26)], none⟩])))))) (.seq (.seq (.reg [⟨(some 7), .mv, [(.c (.int .i64 0))], none⟩]) (.block 2 (.loop (.seq (.seq (.reg [⟨(some 39), .mv, [(.t 7)], none⟩, ⟨(some 40), .mv, [(.t 4)], none⟩, ⟨(some 41), (.iadr 1), [(.t 40), (.c (.int .i64 1))], none⟩, ⟨(some 42), .ld1, [(.t 41)], none⟩, ⟨(some 43), .lens, [(.t 42)], none⟩, ⟨(some 44), (.bin .lss), [(.t 39), (.t 43)], none⟩]) (.cond (.t 44) .skip (.exit 2))) (.seq (.block 3 (.drw [⟨(some 47), (.fadr 1), [(.t 5)], none⟩, ⟨(some 48), .ld1, [(.t 47)], none⟩, ⟨(some 49), .mv, [(.t 4)], none⟩, ⟨(some 50), (.iadr 1), [(.t 49), (.c (.int .i64 1))], none⟩, ⟨(some 51), .ld1, [(.t 50)], none⟩, ⟨(some 52), .mv, [(.t 7)], none⟩, ⟨(some 53), .idx, [(.t 51), (.t 52)], none⟩, ⟨(some 54), (.cvt .i64), [(.t 53)], none⟩, ⟨(some 55), (.bin .sub), [(.t 54), (.c (.int .i64 48))], none⟩, ⟨(some 56), (.bslv 1), [(.t 55)], none⟩, ⟨(some 57), (.app 1 8), [(.t 48), (.t 56)], none⟩, ⟨(some 58), (.fadr 1), [(.t 5)], none⟩, ⟨none, (.st 1), [(.t 58), (.t 57)], none⟩] [[], [0], [], [2], [2, 3], [], [2, 3, 4, 5], [2, 3, 4, 5, 6], [2, 3, 4, 5, 6, 7], [2, 3, 4, 5, 6, 7, 8], [0, 1, 2, 3, 4, 5, 6, 7, 8, 9], [0, 1, 2, 3, 4, 5, 6, 7, 8, 9, 10], [0, 1, 2, 3, 4, 5, 6, 7, 8, 9, 10, 11]] true true)) (.reg [⟨(some 45), .mv, [(.t 7)], none⟩, ⟨(some 46), (.bin .add), [(.t 45), (.c (.int .i64 1))], none⟩, ⟨(some 7), .mv, [(.t 46)], none⟩])))))) (.seq (.reg [⟨(some 59), (.ldn 2), [(.t 5)], none⟩, ⟨(some 60), (.call 76), [(.t 59)], none⟩, ⟨(some 61), (.ext 0), [(.t 60)], none⟩, ⟨(some 62), (.ext 1), [(.t 60)], none⟩, ⟨none, (.st 2), [(.t 2), (.t 61)], none⟩, ⟨(some 3), .mv, [(.t 62)], none⟩]) .ret))))))))
theorem b_spec_WordRead : Body Try.prog 23 63 c_spec_WordRead [(.cn 2 2), (.t 3)] := by
  have h1 : comp Try.prog 63 (Try.f23.body.getD .skip) = some c_spec_WordRead := by kernel_rfl
  have h2 : Try.f23.body = some (Try.f23.body.getD .skip) := by kernel_rfl
  have h3 : Try.f23.results.toList.map (cRes Try.prog) = [(some (.cn 2 2)), (some (.t 3))] := by kernel_rfl
  exact ⟨_, _, Try.func23, h2, Try.ntmps23, h1, h3, by decide⟩


theorem app_strs (o : List (List UInt8)) (x y : List UInt8) (h : x = y) : List.take o.length (o.map strRow) ++ [[.str x]] = (o ++ [y]).map strRow := by
  subst h
  rw [List.take_of_length_le (by simp)]
  simp [strRow]

theorem sub_int {s : List UInt8} {f i : Nat} : sub s ((f : Nat) : Int).toNat (((i : Nat) : Int) - ((f : Nat) : Int)).toNat = sub s f (i - f) := by
  have : (((i : Nat) : Int) - ((f : Nat) : Int)).toNat = i - f := by omega
  rw [this]; rfl

def RCutAll (xs : List AV) (r : AV) (objs : List AObj) : Prop := ∃ s c, xs = [.str s, .int .u8 (UInt8.toNat c)] ∧ s.length ≤ 1048576 ∧ r = .ref 0 0 (pieces c s).length ∧ objs = [.arr 1 ((pieces c s).map strRow)]
theorem RCutAll_mk {s : List UInt8} {c : UInt8} (h : s.length ≤ 1048576) : RCutAll [.str s, .int .u8 c.toNat] (.ref 0 0 (pieces c s).length) [.arr 1 ((pieces c s).map strRow)] := ⟨s, c, rfl, h, rfl, rfl⟩

theorem s_spec_l12Cut : PureSound Try.prog 75 RCutAll := by
  have hR : Rely Try.prog (ctxOf []) := rely_nil mixed
  refine pure_of_aw b_spec_l12Cut ?_
  rintro xs r objs ⟨s, c, rfl, hl, rfl, rfl⟩ -
  refine ⟨by simp, vc2_sound hR _ _ _ _ _ ?_⟩
  conv => whnf
  repeat' (first
    | contradiction
    | (refine And.intro (fun hb => ?_) (fun hb => ?_) <;> first | contradiction | skip
       all_goals (try simp only [decide_eq_true_eq, decide_eq_false_iff_not, Bool.not_eq_true', Bool.not_eq_false', Bool.not_not, ne_eq, length_ints, List.length_map, beq_iff_eq, bne_iff_ne, beq_eq_false_iff_ne, bne_eq_false_iff_eq, Int.not_le, Int.not_lt, ge_iff_le, gt_iff_lt, reduceCtorEq, not_false_eq_true, not_true_eq_false, Bool.false_eq_true, Bool.true_eq_false] at hb)
       all_goals (try (exfalso; first | contradiction | omega))
       all_goals conv => whnf)
    | (refine And.intro (live_all rfl) ?_; conv => whnf)
    | (refine And.intro rfl ?_; conv => whnf)
    | (refine ⟨_, IntWalk.i64_in _ (by omega), ?_⟩; conv => whnf)
    | (refine And.intro (okcs_all rfl) ?_; conv => whnf)
    | (refine And.intro (okvs_all rfl) ?_; conv => whnf)
    | (refine And.intro (frees_all rfl) ?_; conv => whnf)
    | (refine And.intro (bsl_all rfl) ?_; conv => whnf)
    | (refine And.intro (lens_all rfl) ?_; conv => whnf)
    | (refine And.intro (Nat.le_of_ble_eq_true rfl) ?_; conv => whnf)
    | (rw [ints_at (by omega)]; conv => whnf)
    | (rw [ints_at0 (by omega)]; conv => whnf)
    | (rw [ints_at' (by omega) (by omega)]; conv => whnf)
    | (refine And.intro (show (_ + 1) * _ ≤ _ by omega) ?_; conv => whnf)
    | (refine And.intro (show _ + 1 ≤ _ by omega) ?_; conv => whnf)
    | (refine And.intro (by first | omega | (simp only [length_ints]; omega)) ?_; conv => whnf)
    | fail)
  refine Lp.intro (α := Nat × List (List UInt8) × Nat) (fun a => CutInv c s a.1 a.2.1 a.2.2) (fun a => s.length + 1 - a.1) (fun a => [(0, .str s), (1, .int .u8 c.toNat), (5, .ref 0 0 a.2.1.length), (6, .int .i64 a.2.2), (7, .int .i64 a.1)]) (fun a => [some (.arr 1 (a.2.1.map strRow))]) ?_ ?_
  · refine ⟨(0, [], 0), cut_start c s, [none], rfl, rfl, And.intro rfl trivial, ?_⟩
    repeat' (first
      | exact trivial
      | refine ⟨?_, ?_⟩
      | fail)
    all_goals first
      | with_reducible rfl
      | (conv => whnf
         try left
         conv => lhs; whnf
         first
           | rfl
           | exact congrArg (AV.int .i64) (by omega)
           | skip)
  · rintro ⟨i, o, f⟩ hinv
    have hinv' := hinv
    obtain ⟨h1, h2, _⟩ := hinv'
    simp only [] at hinv h1 h2
    have hi : i ≤ s.length + 1 := by obtain ⟨_, _, ⟨_, _⟩ | ⟨_, _⟩⟩ := hinv <;> omega
    have hol : (o.map strRow).length = o.length := by simp
    dsimp only
    refine vc2_sound hR _ _ _ _ _ ?_
    conv => whnf
    repeat' (first
      | contradiction
      | (refine And.intro (fun hb => ?_) (fun hb => ?_) <;> first | contradiction | skip
         all_goals (try simp only [decide_eq_true_eq, decide_eq_false_iff_not, Bool.not_eq_true', Bool.not_eq_false', Bool.not_not, ne_eq, length_ints, List.length_map, beq_iff_eq, bne_iff_ne, beq_eq_false_iff_ne, bne_eq_false_iff_eq, Int.not_le, Int.not_lt, ge_iff_le, gt_iff_lt, reduceCtorEq, not_false_eq_true, not_true_eq_false, Bool.false_eq_true, Bool.true_eq_false] at hb)
         all_goals (try (exfalso; first | contradiction | omega))
         all_goals conv => whnf)
      | (refine And.intro (live_all rfl) ?_; conv => whnf)
      | (refine And.intro rfl ?_; conv => whnf)
      | (refine ⟨_, IntWalk.i64_in _ (by omega), ?_⟩; conv => whnf)
      | (refine And.intro (okcs_all rfl) ?_; conv => whnf)
      | (refine And.intro (okvs_all rfl) ?_; conv => whnf)
      | (refine And.intro (frees_all rfl) ?_; conv => whnf)
      | (refine And.intro (bsl_all rfl) ?_; conv => whnf)
      | (refine And.intro (lens_all rfl) ?_; conv => whnf)
      | (refine And.intro (Nat.le_of_ble_eq_true rfl) ?_; conv => whnf)
      | (rw [ints_at (by omega)]; conv => whnf)
      | (rw [ints_at0 (by omega)]; conv => whnf)
      | (rw [ints_at' (by omega) (by omega)]; conv => whnf)
      | (refine And.intro (show (_ + 1) * _ ≤ _ by omega) ?_; conv => whnf)
      | (refine And.intro (show _ + 1 ≤ _ by omega) ?_; conv => whnf)
      | (refine And.intro (by first | omega | (simp only [length_ints]; omega)) ?_; conv => whnf)
      | (rw [str_at (by omega)]; conv => whnf)
      | fail)
    · have hil : i = s.length := by omega
      subst hil
      refine ⟨(s.length + 1, o ++ [sub s f (s.length - f)], s.length + 1), cut_end hinv, by simp only []; omega, [some 1], rfl, rfl, And.intro (And.intro rfl ?_) trivial, ?_⟩
      · exact app_strs o _ _ sub_int
      · repeat' (first
          | exact trivial
          | refine ⟨?_, ?_⟩
          | fail)
        all_goals first
          | with_reducible rfl
          | (conv => whnf
             try left
             conv => lhs; whnf
             first
               | rfl
               | exact congrArg (AV.int .i64) (by omega)
               | skip)
        all_goals simp
    · refine ⟨(i + 1, o ++ [sub s f (i - f)], i + 1), cut_sign hinv (by omega) (UInt8.toNat_inj.1 (by omega)), by simp only []; omega, [some 1], rfl, rfl, And.intro (And.intro rfl ?_) trivial, ?_⟩
      · exact app_strs o _ _ sub_int
      · repeat' (first
          | exact trivial
          | refine ⟨?_, ?_⟩
          | fail)
        all_goals first
          | with_reducible rfl
          | (conv => whnf
             try left
             conv => lhs; whnf
             first
               | rfl
               | exact congrArg (AV.int .i64) (by omega)
               | skip)
        all_goals simp
    · refine ⟨(i + 1, o, f), cut_other hinv (by omega) (fun he => (show ¬ (((s.getD i 0).toNat : Int) = (c.toNat : Int)) by assumption) (by rw [he])), by simp only []; omega, [some 0], rfl, rfl, And.intro (And.intro rfl rfl) trivial, ?_⟩
      repeat' (first
        | exact trivial
        | refine ⟨?_, ?_⟩
        | fail)
      all_goals first
        | with_reducible rfl
        | (conv => whnf
           try left
           conv => lhs; whnf
           first
             | rfl
             | exact congrArg (AV.int .i64) (by omega)
             | skip)
    · have ho : o = pieces c s := by
        obtain ⟨_, _, ⟨_, _⟩ | ⟨_, h⟩⟩ := hinv
        · omega
        · exact h
      subst ho
      refine ⟨.inl rfl, ?_⟩
      conv => whnf
      refine ⟨[some 0], ⟨rfl, And.intro (And.intro rfl rfl) trivial⟩, rfl, rfl, by simp [AObj.nov, strRow, AV.novs, AV.nov]⟩

theorem RCutAll_59 {s : List UInt8} (h : s.length ≤ 1048576) : RCutAll [.str s, .int .u8 59] (.ref 0 0 (pieces 59 s).length) [.arr 1 ((pieces 59 s).map strRow)] := ⟨s, 59, rfl, h, rfl, rfl⟩

/-- a word that is right is told, with its own memory -/
def GTold : GFun := fun xs objs Q => ∃ a b, xs = [.agg [.ref 0 0 (List.length a), .ref 1 0 (List.length b)]] ∧ objs = [.arr 1 (ints a), .arr 1 (ints b)] ∧
  (wordOk a b 8 = true → Q (.tup [.agg [.ref 0 0 a.length, .ref 1 0 b.length], .bool true]) [some (.arr 1 (ints a)), some (.arr 1 (ints b))]) ∧
  (wordOk a b 8 = false → Q (.tup [.agg [.snil, .snil], .bool false]) [some (.arr 1 (ints a)), some (.arr 1 (ints b))])
theorem GTold_mk {a b : List Int} {Q : AV → List (Option AObj) → Prop}
    (h1 : wordOk a b 8 = true → Q (.tup [.agg [.ref 0 0 a.length, .ref 1 0 b.length], .bool true]) [some (.arr 1 (ints a)), some (.arr 1 (ints b))])
    (h2 : wordOk a b 8 = false → Q (.tup [.agg [.snil, .snil], .bool false]) [some (.arr 1 (ints a)), some (.arr 1 (ints b))]) :
    GTold [.agg [.ref 0 0 a.length, .ref 1 0 b.length]] [.arr 1 (ints a), .arr 1 (ints b)] Q := ⟨a, b, rfl, rfl, h1, h2⟩

theorem s_spec_l3Told : GenSound Try.prog 76 2 GTold := by
  have hR : Rely Try.prog (ctxOf [(62, .pure RRight)]) := rely_cons b_spec_l3Right.has s_spec_l3Right (rely_nil mixed)
  refine gen_of_aw b_spec_l3Told ?_
  rintro xs objs Q - ⟨a, b, rfl, rfl, h1, h2⟩ -
  refine ⟨by simp, vc2_sound hR _ _ _ _ _ ?_⟩
  conv => whnf
  repeat' (first
    | contradiction
    | (refine And.intro (fun hb => ?_) (fun hb => ?_) <;> first | contradiction | skip
       all_goals (try simp only [decide_eq_true_eq, decide_eq_false_iff_not, Bool.not_eq_true', Bool.not_eq_false', Bool.not_not, ne_eq, length_ints, List.length_map, beq_iff_eq, bne_iff_ne, beq_eq_false_iff_ne, bne_eq_false_iff_eq, Int.not_le, Int.not_lt, ge_iff_le, gt_iff_lt, reduceCtorEq, not_false_eq_true, not_true_eq_false, Bool.false_eq_true, Bool.true_eq_false] at hb)
       all_goals (try (exfalso; first | contradiction | omega))
       all_goals conv => whnf)
    | (refine And.intro (live_all rfl) ?_; conv => whnf)
    | (refine And.intro rfl ?_; conv => whnf)
    | (refine ⟨_, IntWalk.i64_in _ (by omega), ?_⟩; conv => whnf)
    | (refine And.intro (okcs_all rfl) ?_; conv => whnf)
    | (refine And.intro (okvs_all rfl) ?_; conv => whnf)
    | (refine And.intro (frees_all rfl) ?_; conv => whnf)
    | (refine And.intro (bsl_all rfl) ?_; conv => whnf)
    | (refine And.intro (lens_all rfl) ?_; conv => whnf)
    | (refine And.intro (Nat.le_of_ble_eq_true rfl) ?_; conv => whnf)
    | (rw [ints_at (by omega)]; conv => whnf)
    | (rw [ints_at0 (by omega)]; conv => whnf)
    | (rw [ints_at' (by omega) (by omega)]; conv => whnf)
    | (refine And.intro (show (_ + 1) * _ ≤ _ by omega) ?_; conv => whnf)
    | (refine And.intro (show _ + 1 ≤ _ by omega) ?_; conv => whnf)
    | (refine And.intro (by first | omega | (simp only [length_ints]; omega)) ?_; conv => whnf)
    | fail)
  refine ⟨_, _, RRight_eq (s := a) (l := b) (by repeat' (first | exact rfl | refine args_cons ?_ ?_ | refine snap_agg ?_ | refine cells_cons ?_ ?_ | exact snap1_all rfl (by first | (simp only [length_ints]; done) | (simp only [length_nodeRows]; done) | simp [ints, marks]) | exact snap_all rfl (by first | (simp only [length_ints]; done) | (simp only [length_nodeRows]; done) | simp [ints, marks]) | exact snap1_all2 rfl (by first | (simp only [length_ints]; done) | (simp only [length_nodeRows]; done) | simp [ints, marks]) | fail)), ?_⟩
  conv => whnf
  repeat' (first
    | contradiction
    | (refine And.intro (fun hb => ?_) (fun hb => ?_) <;> first | contradiction | skip
       all_goals (try simp only [decide_eq_true_eq, decide_eq_false_iff_not, Bool.not_eq_true', Bool.not_eq_false', Bool.not_not, ne_eq, length_ints, List.length_map, beq_iff_eq, bne_iff_ne, beq_eq_false_iff_ne, bne_eq_false_iff_eq, Int.not_le, Int.not_lt, ge_iff_le, gt_iff_lt, reduceCtorEq, not_false_eq_true, not_true_eq_false, Bool.false_eq_true, Bool.true_eq_false] at hb)
       all_goals (try (exfalso; first | contradiction | omega))
       all_goals conv => whnf)
    | (refine And.intro (live_all rfl) ?_; conv => whnf)
    | (refine And.intro rfl ?_; conv => whnf)
    | (refine ⟨_, IntWalk.i64_in _ (by omega), ?_⟩; conv => whnf)
    | (refine And.intro (okcs_all rfl) ?_; conv => whnf)
    | (refine And.intro (okvs_all rfl) ?_; conv => whnf)
    | (refine And.intro (frees_all rfl) ?_; conv => whnf)
    | (refine And.intro (bsl_all rfl) ?_; conv => whnf)
    | (refine And.intro (lens_all rfl) ?_; conv => whnf)
    | (refine And.intro (Nat.le_of_ble_eq_true rfl) ?_; conv => whnf)
    | (rw [ints_at (by omega)]; conv => whnf)
    | (rw [ints_at0 (by omega)]; conv => whnf)
    | (rw [ints_at' (by omega) (by omega)]; conv => whnf)
    | (refine And.intro (show (_ + 1) * _ ≤ _ by omega) ?_; conv => whnf)
    | (refine And.intro (show _ + 1 ≤ _ by omega) ?_; conv => whnf)
    | (refine And.intro (by first | omega | (simp only [length_ints]; omega)) ?_; conv => whnf)
    | fail)
  · refine ⟨.inl rfl, ?_⟩
    conv => whnf
    refine And.intro (Nat.le_of_ble_eq_true rfl) ?_
    conv => whnf
    exact ⟨[some 0, some 1], .tup [.agg [.ref 0 0 a.length, .ref 1 0 b.length], .bool true], [some (.arr 1 (ints a)), some (.arr 1 (ints b))], ⟨rfl, And.intro (And.intro rfl rfl) (And.intro (And.intro rfl rfl) trivial)⟩,
      And.intro (And.intro rfl (And.intro rfl trivial)) (And.intro (.inl rfl) trivial), rfl, h1 (by assumption)⟩
  · refine ⟨.inl rfl, ?_⟩
    conv => whnf
    refine And.intro (Nat.le_of_ble_eq_true rfl) ?_
    conv => whnf
    exact ⟨[some 0, some 1], .tup [.agg [.snil, .snil], .bool false], [some (.arr 1 (ints a)), some (.arr 1 (ints b))], ⟨rfl, And.intro (And.intro rfl rfl) (And.intro (And.intro rfl rfl) trivial)⟩,
      And.intro (And.intro (.inl rfl) (And.intro (.inl rfl) trivial)) (And.intro (.inl rfl) trivial), rfl, h2 (by assumption)⟩

def readS (s : List UInt8) : List Int × List Int × Bool := if 81 < s.length then ([], [], false) else match pieces 59 s with
  | [a, b] => wordBack (nums a) (nums b) true
  | _ => ([], [], false)

def RWordReadS (xs : List AV) (r : AV) (objs : List AObj) : Prop := ∃ s, xs = [.str s] ∧ s.length ≤ 1048576 ∧ r = readR (readS s) ∧ objs = readO (readS s)
theorem RWordReadS_mk {s : List UInt8} (h : s.length ≤ 1048576) : RWordReadS [.str s] (readR (readS s)) (readO (readS s)) := ⟨s, rfl, h, rfl, rfl⟩

theorem ahead_le {cur : List UInt8} {l : List (List UInt8)} {n : Nat} (hl : l ≠ []) (h : ∀ p ∈ l, p.length ≤ n) : ∀ p ∈ ahead cur l, p.length ≤ n + cur.length := by
  cases l with
  | nil => exact absurd rfl hl
  | cons q r =>
    intro p hp
    simp only [ahead, List.mem_cons] at hp
    rcases hp with rfl | hp
    · have := h q (by simp); simp; omega
    · have := h p (by simp [hp]); omega

theorem pieces_le (c : UInt8) : ∀ (s : List UInt8), ∀ p ∈ pieces c s, p.length ≤ s.length
  | [], p, hp => by simp [pieces] at hp; subst hp; simp
  | b :: r, p, hp => by
    have ih := pieces_le c r
    simp only [pieces] at hp
    split at hp
    · rcases List.mem_cons.1 hp with rfl | hp
      · simp
      · have := ih p hp; simp; omega
    · have := ahead_le (pieces_ne c r) ih p hp
      simpa using this

theorem two_of_length {α : Type} {l : List α} (h : l.length = 2) : ∃ a b, l = [a, b] := by
  match l, h with
  | [a, b], _ => exact ⟨a, b, rfl⟩

set_option maxHeartbeats 2000000 in
theorem s_spec_WordRead : PureSound Try.prog 23 RWordReadS := by
  have hR : Rely Try.prog (ctxOf [(75, .pure RCutAll), (76, .gen 2 GTold)]) := rely_cons b_spec_l12Cut.has s_spec_l12Cut (rely_cons b_spec_l3Told.has s_spec_l3Told (rely_nil mixed))
  refine pure_of_aw b_spec_WordRead ?_
  rintro xs r objs ⟨s, rfl, hl, rfl, rfl⟩ -
  refine ⟨by simp, vc2_sound hR _ _ _ _ _ ?_⟩
  conv => whnf
  repeat' (first
    | contradiction
    | (refine And.intro (fun hb => ?_) (fun hb => ?_) <;> first | contradiction | skip
       all_goals (try simp only [decide_eq_true_eq, decide_eq_false_iff_not, Bool.not_eq_true', Bool.not_eq_false', Bool.not_not, ne_eq, length_ints, List.length_map, beq_iff_eq, bne_iff_ne, beq_eq_false_iff_ne, bne_eq_false_iff_eq, Int.not_le, Int.not_lt, ge_iff_le, gt_iff_lt, reduceCtorEq, not_false_eq_true, not_true_eq_false, Bool.false_eq_true, Bool.true_eq_false] at hb)
       all_goals (try (exfalso; first | contradiction | omega))
       all_goals conv => whnf)
    | (refine And.intro (live_all rfl) ?_; conv => whnf)
    | (refine And.intro rfl ?_; conv => whnf)
    | (refine ⟨_, IntWalk.i64_in _ (by omega), ?_⟩; conv => whnf)
    | (refine And.intro (okcs_all rfl) ?_; conv => whnf)
    | (refine And.intro (okvs_all rfl) ?_; conv => whnf)
    | (refine And.intro (frees_all rfl) ?_; conv => whnf)
    | (refine And.intro (bsl_all rfl) ?_; conv => whnf)
    | (refine And.intro (lens_all rfl) ?_; conv => whnf)
    | (refine And.intro (Nat.le_of_ble_eq_true rfl) ?_; conv => whnf)
    | (rw [ints_at (by omega)]; conv => whnf)
    | (rw [ints_at0 (by omega)]; conv => whnf)
    | (rw [ints_at' (by omega) (by omega)]; conv => whnf)
    | (refine And.intro (show (_ + 1) * _ ≤ _ by omega) ?_; conv => whnf)
    | (refine And.intro (show _ + 1 ≤ _ by omega) ?_; conv => whnf)
    | (refine And.intro (by first | omega | (simp only [length_ints]; omega)) ?_; conv => whnf)
    | (refine ⟨_, _, RCutAll_59 (by omega), ?_⟩; conv => whnf)
    | fail)
  · have e : readS s = ([], [], false) := by unfold readS; rw [if_pos (by omega)]
    rw [e]
    refine ⟨.inl rfl, ?_⟩
    conv => whnf
    refine And.intro (Nat.le_of_ble_eq_true rfl) ?_
    conv => whnf
    refine ⟨[none, none], ⟨rfl, And.intro rfl (And.intro rfl trivial)⟩, And.intro (And.intro ⟨rfl, rfl, rfl⟩ (And.intro ⟨rfl, rfl, rfl⟩ trivial)) (And.intro (.inl rfl) trivial), rfl, by simp [readO, AObj.nov, ints_nov]⟩
  · have e : readS s = ([], [], false) := by
      unfold readS
      rw [if_neg (by omega)]
      split
      · rename_i a b hp
        rw [hp] at hb
        simp at hb
      · rfl
    rw [e]
    refine ⟨.inl rfl, ?_⟩
    conv => whnf
    refine And.intro (Nat.le_of_ble_eq_true rfl) ?_
    conv => whnf
    refine ⟨[none, none], ⟨rfl, And.intro rfl (And.intro rfl trivial)⟩, And.intro (And.intro ⟨rfl, rfl, rfl⟩ (And.intro ⟨rfl, rfl, rfl⟩ trivial)) (And.intro (.inl rfl) trivial), rfl, by simp [readO, AObj.nov, ints_nov]⟩
  · obtain ⟨a, b, hp⟩ := two_of_length (l := pieces 59 s) (by omega)
    have e : readS s = wordBack (nums a) (nums b) true := by unfold readS; rw [if_neg (by omega), hp]
    have hab : a.length ≤ 1048576 ∧ b.length ≤ 1048576 := by
      have h := pieces_le 59 s
      rw [hp] at h
      have h1 := h a (by simp)
      have h2 := h b (by simp)
      omega
    refine Lp.intro (α := Nat) (fun i => i ≤ a.length) (fun i => a.length - i) (fun i => [(2, .ptr 0 0 0), (4, .ref 1 0 2), (5, .ptr 2 0 0), (6, .int .i64 i)])
      (fun i => [some (.box [.snil, .snil]), some (.arr 1 [[.str a], [.str b]]), some (.box [.ref 3 0 i, .ref 4 0 0]), some (.arr 1 (ints (nums (a.take i)))), some (.arr 1 [])]) ?_ ?_
    · refine ⟨0, by omega, [some 0, some 1, some 2, none, none], rfl, rfl, ?_, ?_⟩
      · refine And.intro (And.intro (.inl rfl) (And.intro (.inl rfl) trivial)) (And.intro (And.intro rfl ?_) (And.intro (And.intro ⟨rfl, rfl, rfl⟩ (And.intro ⟨rfl, rfl, rfl⟩ trivial)) (And.intro rfl (And.intro rfl trivial))))
        rw [hp]; rfl
      · repeat' (first
          | exact trivial
          | refine ⟨?_, ?_⟩
          | fail)
        all_goals first
          | with_reducible rfl
          | (conv => whnf
             try left
             conv => lhs; whnf
             first
               | rfl
               | exact congrArg (AV.int .i64) (by omega)
               | skip)
        rw [hp]; rfl
    · intro i hi
      have hia : (ints (nums (a.take i))).length = i := by simp [ints, length_nums]; omega
      have h8 := byte_le (a.getD i 0)
      refine vc2_sound hR _ _ _ _ _ ?_
      conv => whnf
      repeat' (first
        | contradiction
        | (refine And.intro (fun hb => ?_) (fun hb => ?_) <;> first | contradiction | skip
           all_goals (try simp only [decide_eq_true_eq, decide_eq_false_iff_not, Bool.not_eq_true', Bool.not_eq_false', Bool.not_not, ne_eq, length_ints, List.length_map, beq_iff_eq, bne_iff_ne, beq_eq_false_iff_ne, bne_eq_false_iff_eq, Int.not_le, Int.not_lt, ge_iff_le, gt_iff_lt, reduceCtorEq, not_false_eq_true, not_true_eq_false, Bool.false_eq_true, Bool.true_eq_false] at hb)
           all_goals (try (exfalso; first | contradiction | omega))
           all_goals conv => whnf)
        | (refine And.intro (live_all rfl) ?_; conv => whnf)
        | (refine And.intro rfl ?_; conv => whnf)
        | (refine ⟨_, IntWalk.i64_in _ (by omega), ?_⟩; conv => whnf)
        | (refine And.intro (okcs_all rfl) ?_; conv => whnf)
        | (refine And.intro (okvs_all rfl) ?_; conv => whnf)
        | (refine And.intro (frees_all rfl) ?_; conv => whnf)
        | (refine And.intro (bsl_all rfl) ?_; conv => whnf)
        | (refine And.intro (lens_all rfl) ?_; conv => whnf)
        | (refine And.intro (Nat.le_of_ble_eq_true rfl) ?_; conv => whnf)
        | (rw [ints_at (by omega)]; conv => whnf)
        | (rw [ints_at0 (by omega)]; conv => whnf)
        | (rw [ints_at' (by omega) (by omega)]; conv => whnf)
        | (refine And.intro (show (_ + 1) * _ ≤ _ by omega) ?_; conv => whnf)
        | (refine And.intro (show _ + 1 ≤ _ by omega) ?_; conv => whnf)
        | (refine And.intro (by first | omega | (simp only [length_ints]; omega)) ?_; conv => whnf)
        | (rw [str_at (by omega)]; conv => whnf)
        | fail)
      · refine ⟨i + 1, by omega, by omega, [some 0, some 1, some 2, some 5, some 4], rfl, rfl, ?_, ?_⟩
        · refine And.intro (And.intro (.inl rfl) (And.intro (.inl rfl) trivial)) (And.intro (And.intro rfl rfl) (And.intro (And.intro rfl (And.intro rfl trivial)) (And.intro (And.intro rfl ?_) (And.intro (And.intro rfl rfl) trivial))))
          show List.take i (ints (nums (a.take i))) ++ [[.int .i64 (((a.getD i 0).toNat : Int) - 48)]] = _
          rw [app_step _ _ _ (by simpa [ints] using hia.symm), nums_take (by omega)]
        · repeat' (first
            | exact trivial
            | refine ⟨?_, ?_⟩
            | fail)
          all_goals first
            | with_reducible rfl
            | (conv => whnf
               try left
               conv => lhs; whnf
               first
                 | rfl
                 | exact congrArg (AV.int .i64) (by omega)
                 | skip)
      · have hil : i = a.length := by omega
        subst hil
        rw [List.take_length] at *
        refine Lp.intro (α := Nat) (fun j => j ≤ b.length) (fun j => b.length - j) (fun j => [(2, .ptr 0 0 0), (4, .ref 1 0 2), (5, .ptr 2 0 0), (7, .int .i64 j)])
          (fun j => [some (.box [.snil, .snil]), some (.arr 1 [[.str a], [.str b]]), some (.box [.ref 3 0 a.length, .ref 4 0 j]), some (.arr 1 (ints (nums a))), some (.arr 1 (ints (nums (b.take j))))]) ?_ ?_
        · refine ⟨0, by omega, [some 0, some 1, some 2, some 3, some 4], rfl, rfl, ?_, ?_⟩
          · refine And.intro (And.intro (.inl rfl) (And.intro (.inl rfl) trivial)) (And.intro (And.intro rfl rfl) (And.intro (And.intro rfl (And.intro rfl trivial)) (And.intro (And.intro rfl rfl) (And.intro (And.intro rfl rfl) trivial))))
          · repeat' (first
              | exact trivial
              | refine ⟨?_, ?_⟩
              | fail)
            all_goals first
              | with_reducible rfl
              | (conv => whnf
                 try left
                 conv => lhs; whnf
                 first
                   | rfl
                   | exact congrArg (AV.int .i64) (by omega)
                   | skip)
        · intro j hj
          have hjb : (ints (nums (b.take j))).length = j := by simp [ints, length_nums]; omega
          have h8' := byte_le (b.getD j 0)
          refine vc2_sound hR _ _ _ _ _ ?_
          conv => whnf
          repeat' (first
            | contradiction
            | (refine And.intro (fun hb => ?_) (fun hb => ?_) <;> first | contradiction | skip
               all_goals (try simp only [decide_eq_true_eq, decide_eq_false_iff_not, Bool.not_eq_true', Bool.not_eq_false', Bool.not_not, ne_eq, length_ints, List.length_map, beq_iff_eq, bne_iff_ne, beq_eq_false_iff_ne, bne_eq_false_iff_eq, Int.not_le, Int.not_lt, ge_iff_le, gt_iff_lt, reduceCtorEq, not_false_eq_true, not_true_eq_false, Bool.false_eq_true, Bool.true_eq_false] at hb)
               all_goals (try (exfalso; first | contradiction | omega))
               all_goals conv => whnf)
            | (refine And.intro (live_all rfl) ?_; conv => whnf)
            | (refine And.intro rfl ?_; conv => whnf)
            | (refine ⟨_, IntWalk.i64_in _ (by omega), ?_⟩; conv => whnf)
            | (refine And.intro (okcs_all rfl) ?_; conv => whnf)
            | (refine And.intro (okvs_all rfl) ?_; conv => whnf)
            | (refine And.intro (frees_all rfl) ?_; conv => whnf)
            | (refine And.intro (bsl_all rfl) ?_; conv => whnf)
            | (refine And.intro (lens_all rfl) ?_; conv => whnf)
            | (refine And.intro (Nat.le_of_ble_eq_true rfl) ?_; conv => whnf)
            | (rw [ints_at (by omega)]; conv => whnf)
            | (rw [ints_at0 (by omega)]; conv => whnf)
            | (rw [ints_at' (by omega) (by omega)]; conv => whnf)
            | (refine And.intro (show (_ + 1) * _ ≤ _ by omega) ?_; conv => whnf)
            | (refine And.intro (show _ + 1 ≤ _ by omega) ?_; conv => whnf)
            | (refine And.intro (by first | omega | (simp only [length_ints]; omega)) ?_; conv => whnf)
            | (rw [str_at (by omega)]; conv => whnf)
            | fail)
          · refine ⟨j + 1, by omega, by omega, [some 0, some 1, some 2, some 3, some 5], rfl, rfl, ?_, ?_⟩
            · refine And.intro (And.intro (.inl rfl) (And.intro (.inl rfl) trivial)) (And.intro (And.intro rfl rfl) (And.intro (And.intro rfl (And.intro rfl trivial)) (And.intro (And.intro rfl rfl) (And.intro (And.intro rfl ?_) trivial))))
              show List.take j (ints (nums (b.take j))) ++ [[.int .i64 (((b.getD j 0).toNat : Int) - 48)]] = _
              rw [app_step _ _ _ (by simpa [ints] using hjb.symm), nums_take (by omega)]
            · repeat' (first
                | exact trivial
                | refine ⟨?_, ?_⟩
                | fail)
              all_goals first
                | with_reducible rfl
                | (conv => whnf
                   try left
                   conv => lhs; whnf
                   first
                     | rfl
                     | exact congrArg (AV.int .i64) (by omega)
                     | skip)
          · have hjl : j = b.length := by omega
            subst hjl
            rw [List.take_length] at *
            have la := length_nums a
            have lb := length_nums b
            rw [← la, ← lb]
            refine ⟨GTold_mk (a := nums a) (b := nums b) (fun hw => ?_) (fun hw => ?_)⟩
            · have e2 : readS s = (nums a, nums b, true) := by rw [e]; simp [wordBack, hw]
              rw [e2]
              conv => whnf
              repeat' (first
                | contradiction
                | (refine And.intro (fun hb => ?_) (fun hb => ?_) <;> first | contradiction | skip
                   all_goals (try simp only [decide_eq_true_eq, decide_eq_false_iff_not, Bool.not_eq_true', Bool.not_eq_false', Bool.not_not, ne_eq, length_ints, List.length_map, beq_iff_eq, bne_iff_ne, beq_eq_false_iff_ne, bne_eq_false_iff_eq, Int.not_le, Int.not_lt, ge_iff_le, gt_iff_lt, reduceCtorEq, not_false_eq_true, not_true_eq_false, Bool.false_eq_true, Bool.true_eq_false] at hb)
                   all_goals (try (exfalso; first | contradiction | omega))
                   all_goals conv => whnf)
                | (refine And.intro (live_all rfl) ?_; conv => whnf)
                | (refine And.intro rfl ?_; conv => whnf)
                | (refine ⟨_, IntWalk.i64_in _ (by omega), ?_⟩; conv => whnf)
                | (refine And.intro (okcs_all rfl) ?_; conv => whnf)
                | (refine And.intro (okvs_all rfl) ?_; conv => whnf)
                | (refine And.intro (frees_all rfl) ?_; conv => whnf)
                | (refine And.intro (bsl_all rfl) ?_; conv => whnf)
                | (refine And.intro (lens_all rfl) ?_; conv => whnf)
                | (refine And.intro (Nat.le_of_ble_eq_true rfl) ?_; conv => whnf)
                | (rw [ints_at (by omega)]; conv => whnf)
                | (rw [ints_at0 (by omega)]; conv => whnf)
                | (rw [ints_at' (by omega) (by omega)]; conv => whnf)
                | (refine And.intro (show (_ + 1) * _ ≤ _ by omega) ?_; conv => whnf)
                | (refine And.intro (show _ + 1 ≤ _ by omega) ?_; conv => whnf)
                | (refine And.intro (by first | omega | (simp only [length_ints]; omega)) ?_; conv => whnf)
                | fail)
              refine ⟨.inl rfl, ?_⟩
              conv => whnf
              refine And.intro (Nat.le_of_ble_eq_true rfl) ?_
              conv => whnf
              refine ⟨[some 3, some 4], ⟨rfl, And.intro (And.intro rfl rfl) (And.intro (And.intro rfl rfl) trivial)⟩, And.intro (And.intro rfl (And.intro rfl trivial)) (And.intro (.inl rfl) trivial), rfl, by simp [readO, AObj.nov, ints_nov]⟩
            · have e2 : readS s = ([], [], false) := by rw [e]; simp [wordBack, hw]
              rw [e2]
              conv => whnf
              repeat' (first
                | contradiction
                | (refine And.intro (fun hb => ?_) (fun hb => ?_) <;> first | contradiction | skip
                   all_goals (try simp only [decide_eq_true_eq, decide_eq_false_iff_not, Bool.not_eq_true', Bool.not_eq_false', Bool.not_not, ne_eq, length_ints, List.length_map, beq_iff_eq, bne_iff_ne, beq_eq_false_iff_ne, bne_eq_false_iff_eq, Int.not_le, Int.not_lt, ge_iff_le, gt_iff_lt, reduceCtorEq, not_false_eq_true, not_true_eq_false, Bool.false_eq_true, Bool.true_eq_false] at hb)
                   all_goals (try (exfalso; first | contradiction | omega))
                   all_goals conv => whnf)
                | (refine And.intro (live_all rfl) ?_; conv => whnf)
                | (refine And.intro rfl ?_; conv => whnf)
                | (refine ⟨_, IntWalk.i64_in _ (by omega), ?_⟩; conv => whnf)
                | (refine And.intro (okcs_all rfl) ?_; conv => whnf)
                | (refine And.intro (okvs_all rfl) ?_; conv => whnf)
                | (refine And.intro (frees_all rfl) ?_; conv => whnf)
                | (refine And.intro (bsl_all rfl) ?_; conv => whnf)
                | (refine And.intro (lens_all rfl) ?_; conv => whnf)
                | (refine And.intro (Nat.le_of_ble_eq_true rfl) ?_; conv => whnf)
                | (rw [ints_at (by omega)]; conv => whnf)
                | (rw [ints_at0 (by omega)]; conv => whnf)
                | (rw [ints_at' (by omega) (by omega)]; conv => whnf)
                | (refine And.intro (show (_ + 1) * _ ≤ _ by omega) ?_; conv => whnf)
                | (refine And.intro (show _ + 1 ≤ _ by omega) ?_; conv => whnf)
                | (refine And.intro (by first | omega | (simp only [length_ints]; omega)) ?_; conv => whnf)
                | fail)
              refine ⟨.inl rfl, ?_⟩
              conv => whnf
              refine And.intro (Nat.le_of_ble_eq_true rfl) ?_
              conv => whnf
              refine ⟨[none, none], ⟨rfl, And.intro rfl (And.intro rfl trivial)⟩, And.intro (And.intro ⟨rfl, rfl, rfl⟩ (And.intro ⟨rfl, rfl, rfl⟩ trivial)) (And.intro (.inl rfl) trivial), rfl, by simp [readO, AObj.nov, ints_nov]⟩

end Go.Proofs.Ytpfbkblgefddlaa.Ct

