/- Formulas that are right: the program's test. -/
import Derived.Test.YtpfbkblgefddlaaCtNode3
namespace Go.Proofs.Ytpfbkblgefddlaa.Ct
set_option linter.unusedSimpArgs false
set_option linter.unusedVariables false
open Go Go.Proofs Go.Proofs.Ytpfbkblgefddlaa.Av

def c_impl_begins : ICode := (.seq (.reg [⟨(some 4), .mv, [(.c .snil)], none⟩, ⟨(some 5), .mv, [(.c (.bool false))], none⟩]) (.seq (.seq (.reg [⟨(some 9), .mv, [(.t 0)], none⟩, ⟨(some 10), .len, [(.t 9)], none⟩, ⟨(some 11), (.call 72), [(.t 10), (.c (.int .i64 1)), (.c (.int .i64 31))], none⟩, ⟨(some 12), .not, [(.t 11)], none⟩]) (.cond (.t 12) (.seq (.reg [⟨(some 4), .mv, [(.c .snil)], none⟩, ⟨(some 5), .mv, [(.c (.bool false))], none⟩]) .ret) .skip)) (.seq (.reg [⟨(some 13), .mv, [(.t 0)], none⟩, ⟨(some 14), .len, [(.t 13)], none⟩, ⟨(some 15), (.mks 1 8 [(.int .i64 0)]), [(.t 14), (.t 14)], none⟩, ⟨(some 6), .mv, [(.t 15)], none⟩]) (.seq (.seq (.reg [⟨(some 16), .mv, [(.t 0)], none⟩, ⟨(some 17), .len, [(.t 16)], none⟩, ⟨(some 18), .mv, [(.c (.int .i64 0))], none⟩]) (.block 0 (.loop (.seq (.reg [⟨(some 19), (.bin .lss), [(.t 18), (.t 17)], none⟩]) (.seq (.cond (.t 19) .skip (.exit 0)) (.seq (.block 1 (.seq (.reg [⟨(some 20), .mv, [(.t 18)], none⟩, ⟨(some 21), (.iadr 3), [(.t 16), (.t 18)], none⟩, ⟨(some 22), (.ldn 3), [(.t 21)], none⟩, ⟨(some 8), (.alc [(.int .i64 0), (.int .i64 0), (.int .i64 0)]), [], none⟩, ⟨(some 7), .mv, [(.t 20)], none⟩, ⟨none, (.st 3), [(.t 8), (.t 22)], none⟩]) (.seq (.reg [⟨(some 23), .mv, [(.t 6)], none⟩, ⟨(some 24), .mv, [(.t 7)], none⟩, ⟨(some 25), .mv, [(.t 7)], none⟩, ⟨(some 26), (.iadr 1), [(.t 23), (.t 24)], none⟩, ⟨none, (.st 1), [(.t 26), (.t 25)], none⟩]) (.seq (.reg [⟨(some 27), .mv, [(.t 1)], none⟩, ⟨(some 28), (.ldn 3), [(.t 8)], none⟩, ⟨(some 29), .dyn, [(.t 27), (.t 28)], none⟩]) (.block 2 (.seq (.reg [⟨(some 31), (.bin .eql), [(.t 29), (.c (.int .i64 0))], none⟩, ⟨(some 30), .mv, [(.t 31)], none⟩]) (.cond (.t 30) (.exit 1) (.seq (.reg [⟨(some 33), (.bin .eql), [(.t 29), (.c (.int .i64 1))], none⟩, ⟨(some 32), .mv, [(.t 33)], none⟩]) (.cond (.t 32) (.seq (.seq (.reg [⟨(some 34), .mv, [(.t 7)], none⟩, ⟨(some 35), (.bin .eql), [(.t 34), (.c (.int .i64 0))], none⟩, ⟨(some 36), .mv, [(.t 35)], none⟩, ⟨(some 37), (.fadr 1), [(.t 8)], (some (36, false))⟩, ⟨(some 38), .ld1, [(.t 37)], (some (36, false))⟩, ⟨(some 39), .mv, [(.t 7)], (some (36, false))⟩, ⟨(some 40), (.bin .sub), [(.t 39), (.c (.int .i64 1))], (some (36, false))⟩, ⟨(some 41), (.bin .neq), [(.t 38), (.t 40)], (some (36, false))⟩, ⟨(some 42), .pick, [(.t 36), (.c (.bool true)), (.t 41)], none⟩, ⟨(some 43), .mv, [(.t 42)], none⟩, ⟨(some 44), (.fadr 2), [(.t 8)], (some (43, false))⟩, ⟨(some 45), .ld1, [(.t 44)], (some (43, false))⟩, ⟨(some 46), (.bin .neq), [(.t 45), (.c (.int .i64 0))], (some (43, false))⟩, ⟨(some 47), .pick, [(.t 43), (.c (.bool true)), (.t 46)], none⟩]) (.cond (.t 47) (.seq (.reg [⟨(some 4), .mv, [(.c .snil)], none⟩, ⟨(some 5), .mv, [(.c (.bool false))], none⟩]) .ret) .skip)) (.reg [⟨(some 48), .mv, [(.t 6)], none⟩, ⟨(some 49), .mv, [(.t 7)], none⟩, ⟨(some 50), .mv, [(.t 6)], none⟩, ⟨(some 51), (.fadr 1), [(.t 8)], none⟩, ⟨(some 52), .ld1, [(.t 51)], none⟩, ⟨(some 53), (.iadr 1), [(.t 50), (.t 52)], none⟩, ⟨(some 54), .ld1, [(.t 53)], none⟩, ⟨(some 55), (.iadr 1), [(.t 48), (.t 49)], none⟩, ⟨none, (.st 1), [(.t 55), (.t 54)], none⟩])) (.seq (.reg [⟨(some 57), (.bin .eql), [(.t 29), (.c (.int .i64 2))], none⟩, ⟨(some 56), .mv, [(.t 57)], none⟩]) (.cond (.t 56) (.seq (.seq (.drw [⟨(some 58), .mv, [(.t 7)], none⟩, ⟨(some 59), (.bin .eql), [(.t 58), (.c (.int .i64 0))], none⟩, ⟨(some 60), .mv, [(.t 59)], none⟩, ⟨(some 61), (.fadr 2), [(.t 8)], (some (60, false))⟩, ⟨(some 62), .ld1, [(.t 61)], (some (60, false))⟩, ⟨(some 63), .mv, [(.t 7)], (some (60, false))⟩, ⟨(some 64), (.bin .sub), [(.t 63), (.c (.int .i64 1))], (some (60, false))⟩, ⟨(some 65), (.bin .neq), [(.t 62), (.t 64)], (some (60, false))⟩, ⟨(some 66), .pick, [(.t 60), (.c (.bool true)), (.t 65)], none⟩, ⟨(some 67), .mv, [(.t 66)], none⟩, ⟨(some 68), (.fadr 1), [(.t 8)], (some (67, false))⟩, ⟨(some 69), .ld1, [(.t 68)], (some (67, false))⟩, ⟨(some 70), .mv, [(.t 6)], (some (67, false))⟩, ⟨(some 71), .mv, [(.t 7)], (some (67, false))⟩, ⟨(some 72), (.bin .sub), [(.t 71), (.c (.int .i64 1))], (some (67, false))⟩, ⟨(some 73), (.iadr 1), [(.t 70), (.t 72)], (some (67, false))⟩, ⟨(some 74), .ld1, [(.t 73)], (some (67, false))⟩, ⟨(some 75), (.bin .sub), [(.t 74), (.c (.int .i64 1))], (some (67, false))⟩, ⟨(some 76), (.bin .neq), [(.t 69), (.t 75)], (some (67, false))⟩, ⟨(some 77), .pick, [(.t 67), (.c (.bool true)), (.t 76)], none⟩, ⟨(some 78), .mv, [(.t 77)], none⟩, ⟨(some 79), (.fadr 1), [(.t 8)], (some (78, false))⟩, ⟨(some 80), .ld1, [(.t 79)], (some (78, false))⟩, ⟨(some 81), (.bin .lss), [(.t 80), (.c (.int .i64 0))], (some (78, false))⟩, ⟨(some 82), .pick, [(.t 78), (.c (.bool true)), (.t 81)], none⟩] [[], [0], [0, 1], [0, 1, 2], [0, 1, 2, 3], [0, 1, 2], [0, 1, 2, 5], [0, 1, 2, 3, 4, 5, 6], [0, 1, 2, 3, 4, 5, 6, 7], [0, 1, 2, 3, 4, 5, 6, 7, 8], [0, 1, 2, 3, 4, 5, 6, 7, 8, 9], [0, 1, 2, 3, 4, 5, 6, 7, 8, 9, 10], [0, 1, 2, 3, 4, 5, 6, 7, 8, 9], [0, 1, 2, 3, 4, 5, 6, 7, 8, 9], [0, 1, 2, 3, 4, 5, 6, 7, 8, 9, 13], [0, 1, 2, 3, 4, 5, 6, 7, 8, 9, 12, 13, 14], [0, 1, 2, 3, 4, 5, 6, 7, 8, 9, 12, 13, 14, 15], [0, 1, 2, 3, 4, 5, 6, 7, 8, 9, 12, 13, 14, 15, 16], [0, 1, 2, 3, 4, 5, 6, 7, 8, 9, 10, 11, 12, 13, 14, 15, 16, 17], [0, 1, 2, 3, 4, 5, 6, 7, 8, 9, 10, 11, 12, 13, 14, 15, 16, 17, 18], [0, 1, 2, 3, 4, 5, 6, 7, 8, 9, 10, 11, 12, 13, 14, 15, 16, 17, 18, 19], [0, 1, 2, 3, 4, 5, 6, 7, 8, 9, 10, 11, 12, 13, 14, 15, 16, 17, 18, 19, 20], [0, 1, 2, 3, 4, 5, 6, 7, 8, 9, 10, 11, 12, 13, 14, 15, 16, 17, 18, 19, 20, 21], [0, 1, 2, 3, 4, 5, 6, 7, 8, 9, 10, 11, 12, 13, 14, 15, 16, 17, 18, 19, 20, 21, 22], [0, 1, 2, 3, 4, 5, 6, 7, 8, 9, 10, 11, 12, 13, 14, 15, 16, 17, 18, 19, 20, 21, 22, 23]] true true) (.cond (.t 82) (.seq (.reg [⟨(some 4), .mv, [(.c .snil)], none⟩, ⟨(some 5), .mv, [(.c (.bool false))], none⟩]) .ret) .skip)) (.reg [⟨(some 83), .mv, [(.t 6)], none⟩, ⟨(some 84), .mv, [(.t 7)], none⟩, ⟨(some 85), .mv, [(.t 6)], none⟩, ⟨(some 86), (.fadr 1), [(.t 8)], none⟩, ⟨(some 87), .ld1, [(.t 86)], none⟩, ⟨(some 88), (.iadr 1), [(.t 85), (.t 87)], none⟩, ⟨(some 89), .ld1, [(.t 88)], none⟩, ⟨(some 90), (.iadr 1), [(.t 83), (.t 84)], none⟩, ⟨none, (.st 1), [(.t 90), (.t 89)], none⟩])) (.seq (.reg [⟨(some 4), .mv, [(.c .snil)], none⟩, ⟨(some 5), .mv, [(.c (.bool false))], none⟩]) .ret)))))))))))) (.reg [⟨(some 91), (.bin .add), [(.t 18), (.c (.int .i64 1))], none⟩, ⟨(some 18), .mv, [(.t 91)], none⟩]))))))) (.seq (.drw [⟨(some 92), .mv, [(.t 6)], none⟩, ⟨(some 93), .mv, [(.t 6)], none⟩, ⟨(some 94), .mv, [(.t 0)], none⟩, ⟨(some 95), .len, [(.t 94)], none⟩, ⟨(some 96), (.bin .sub), [(.t 95), (.c (.int .i64 1))], none⟩, ⟨(some 97), (.iadr 1), [(.t 93), (.t 96)], none⟩, ⟨(some 98), .ld1, [(.t 97)], none⟩, ⟨(some 99), (.bin .eql), [(.t 98), (.c (.int .i64 0))], none⟩, ⟨(some 4), .mv, [(.t 92)], none⟩, ⟨(some 5), .mv, [(.t 99)], none⟩] [[], [], [], [2], [2, 3], [1, 2, 3, 4], [1, 2, 3, 4, 5], [1, 2, 3, 4, 5, 6], [0], [0, 1, 2, 3, 4, 5, 6, 7, 8]] true true) .ret)))))
theorem b_impl_begins : Body Try.prog 147 100 c_impl_begins [(.t 4), (.t 5)] := by
  have h1 : comp Try.prog 100 (Try.f147.body.getD .skip) = some c_impl_begins := by kernel_rfl
  have h2 : Try.f147.body = some (Try.f147.body.getD .skip) := by kernel_rfl
  have h3 : Try.f147.results.toList.map (cRes Try.prog) = [(some (.t 4)), (some (.t 5))] := by kernel_rfl
  exact ⟨_, _, Try.func147, h2, Try.ntmps147, h1, h3, by decide⟩

def c_impl_isTree : ICode := (.seq (.reg [⟨(some 4), .mv, [(.c (.bool false))], none⟩]) (.seq (.reg [⟨(some 8), .mv, [(.t 0)], none⟩, ⟨(some 9), .mv, [(.t 1)], none⟩, ⟨(some 10), (.call 147), [(.t 8), (.t 9)], none⟩, ⟨(some 7), .mv, [(.t 10)], none⟩, ⟨(some 11), (.ext 0), [(.t 7)], none⟩, ⟨(some 12), (.ext 1), [(.t 7)], none⟩, ⟨(some 5), .mv, [(.t 11)], none⟩, ⟨(some 6), .mv, [(.t 12)], none⟩]) (.seq (.reg [⟨(some 13), .mv, [(.t 6)], none⟩, ⟨(some 4), .mv, [(.t 13)], none⟩]) .ret)))
theorem b_impl_isTree : Body Try.prog 101 14 c_impl_isTree [(.t 4)] := by
  have h1 : comp Try.prog 14 (Try.f101.body.getD .skip) = some c_impl_isTree := by kernel_rfl
  have h2 : Try.f101.body = some (Try.f101.body.getD .skip) := by kernel_rfl
  have h3 : Try.f101.results.toList.map (cRes Try.prog) = [(some (.t 4))] := by kernel_rfl
  exact ⟨_, _, Try.func101, h2, Try.ntmps101, h1, h3, by decide⟩

def c_impl_LtlOk : ICode := (.seq (.reg [⟨(some 2), .mv, [(.c (.bool false))], none⟩]) (.seq (.reg [⟨(some 3), .mv, [(.t 0)], none⟩, ⟨(some 4), (.call 101), [(.t 3), (.c (.fn 97 []))], none⟩, ⟨(some 2), .mv, [(.t 4)], none⟩]) .ret))
theorem b_impl_LtlOk : Body Try.prog 41 5 c_impl_LtlOk [(.t 2)] := by
  have h1 : comp Try.prog 5 (Try.f41.body.getD .skip) = some c_impl_LtlOk := by kernel_rfl
  have h2 : Try.f41.body = some (Try.f41.body.getD .skip) := by kernel_rfl
  have h3 : Try.f41.results.toList.map (cRes Try.prog) = [(some (.t 2))] := by kernel_rfl
  exact ⟨_, _, Try.func41, h2, Try.ntmps41, h1, h3, by decide⟩


/-- where the tree that ends at place i begins, by the program -/
def beginAt (n : NodeD) (i : Nat) (bs : List Int) : Option Int :=
  if partsL n = 0 then some i
  else if partsL n = 1 then (if i = 0 ∨ n.a ≠ i - 1 ∨ n.b ≠ 0 then none else some (bs.getD n.a.toNat 0))
  else if partsL n = 2 then (if i = 0 ∨ n.b ≠ i - 1 ∨ n.a ≠ bs.getD (i - 1) 0 - 1 ∨ n.a < 0 then none else some (bs.getD n.a.toNat 0))
  else none

/-- .. of the first i trees -/
def begs (l : List NodeD) : Nat → Option (List Int)
  | 0 => some []
  | i + 1 => match begs l i with
    | some bs => (beginAt (l.getD i default) i bs).map fun s => bs ++ [s]
    | none => none

theorem begs_none {l : List NodeD} {i : Nat} (h : begs l i = none) : ∀ j, i ≤ j → begs l j = none
  | 0, hj => by have : i = 0 := by omega
                subst this; exact h
  | j + 1, hj => by
    by_cases he : i = j + 1
    · subst he; exact h
    · simp only [begs, begs_none h j (by omega)]

/-- no tree begins behind its end, or ahead of the list -/
theorem begs_bound {l : List NodeD} : ∀ (i : Nat) (bs : List Int), begs l i = some bs → bs.length = i ∧ ∀ j, j < i → 0 ≤ bs.getD j 0 ∧ bs.getD j 0 ≤ j
  | 0, bs, h => by simp [begs] at h; subst h; simp
  | i + 1, bs, h => by
    simp only [begs] at h
    split at h
    · rename_i o ho
      obtain ⟨s, hs, rfl⟩ := Option.map_eq_some_iff.1 h
      obtain ⟨h1, h2⟩ := begs_bound i o ho
      refine ⟨by simp [h1], fun j hj => ?_⟩
      by_cases hji : j < i
      · have := h2 j hji
        rw [List.getD_eq_getElem?_getD, List.getElem?_append, if_pos (by omega), ← List.getD_eq_getElem?_getD]
        exact this
      · have hj' : j = i := by omega
        subst hj'
        have e : (o ++ [s]).getD j 0 = s := by
          rw [List.getD_eq_getElem?_getD, List.getElem?_append, if_neg (by omega)]
          simp [h1]
        rw [e]
        unfold beginAt at hs
        split at hs
        · cases hs; omega
        · split at hs
          · split at hs
            · cases hs
            · cases hs
              have := h2 (l.getD j default).a.toNat (by omega)
              omega
          · split at hs
            · split at hs
              · cases hs
              · cases hs
                have a1 := h2 (j - 1) (by omega)
                have := h2 (l.getD j default).a.toNat (by omega)
                omega
            · cases hs
    · cases h

def begsL (l : List NodeD) : Option (List Int) := if 1 ≤ l.length ∧ l.length ≤ 31 then begs l l.length else none
def begR : Option (List Int) → AV
  | none => .tup [.snil, .bool false]
  | some bs => .tup [.ref 0 0 bs.length, .bool (decide (bs.getD (bs.length - 1) 0 = 0))]
def begO : Option (List Int) → List AObj
  | none => []
  | some bs => [.arr 1 (ints bs)]
def RBegins (xs : List AV) (r : AV) (objs : List AObj) : Prop := ∃ l, xs = [.val (nodeRows l), .fn 97 []] ∧ r = begR (begsL l) ∧ objs = begO (begsL l)

theorem begsL_fail {l : List NodeD} {i : Nat} {bs : List Int} (hi : i < l.length) (h : begs l i = some bs) (hf : beginAt (l.getD i default) i bs = none) : begsL l = none := by
  have h1 : begs l (i + 1) = none := by simp only [begs, h, hf, Option.map_none]
  unfold begsL
  rw [begs_none h1 l.length (by omega)]
  split <;> rfl
theorem begs_next {l : List NodeD} {i : Nat} {bs : List Int} {s : Int} (h : begs l i = some bs) (hs : beginAt (l.getD i default) i bs = some s) : begs l (i + 1) = some (bs ++ [s]) := by
  simp only [begs, h, hs, Option.map_some]

theorem set_at {X : List Int} {i : Nat} {r : List AV} (h : i < X.length) : ((ints X).set (0 + ((i : Nat) : Int).toNat) r)[0 + ((i : Nat) : Int).toNat]? = some r := by
  rw [Nat.zero_add, Int.toNat_natCast]
  rw [List.getElem?_set_self (by simp [ints]; omega)]
theorem set_ne {bs Z : List Int} {i : Nat} {r : List AV} {x : Int} (h0 : 0 ≤ x) (h1 : x < i) (h : i = bs.length) : ((ints (bs ++ Z)).set (0 + ((i : Nat) : Int).toNat) r)[0 + x.toNat]? = some [.int .i64 (bs.getD x.toNat 0)] := by
  rw [Nat.zero_add, Nat.zero_add, Int.toNat_natCast]
  rw [List.getElem?_set_ne (by omega)]
  have hx : x.toNat < bs.length := by omega
  simp [ints, List.getElem?_append, hx, List.getD_eq_getElem?_getD]
theorem set_ne' {bs Z : List Int} {i : Nat} {r : List AV} (h0 : 0 < i) (h : i = bs.length) : ((ints (bs ++ Z)).set (0 + ((i : Nat) : Int).toNat) r)[0 + (((i : Nat) : Int) - 1).toNat]? = some [.int .i64 (bs.getD (i - 1) 0)] := by
  have e : (((i : Nat) : Int) - 1).toNat = i - 1 := by omega
  have := set_ne (bs := bs) (Z := Z) (i := i) (r := r) (x := (i : Int) - 1) (by omega) (by omega) h
  rw [this, e]
theorem fill_at {bs : List Int} {i n : Nat} {v : Int} (h : i = bs.length) (hi : i < n) : (ints (bs ++ List.replicate (n - i) 0)).set (0 + ((i : Nat) : Int).toNat) [.int .i64 v] = ints ((bs ++ [v]) ++ List.replicate (n - (i + 1)) 0) := by
  rw [Nat.zero_add, Int.toNat_natCast]
  obtain ⟨m, rfl⟩ : ∃ m, n = i + 1 + m := ⟨n - (i + 1), by omega⟩
  subst h
  have e : bs.length + 1 + m - bs.length = m + 1 := by omega
  have e2 : bs.length + 1 + m - (bs.length + 1) = m := by omega
  rw [e, e2]
  simp [ints, List.replicate_succ]

set_option maxHeartbeats 4000000 in
theorem s_impl_begins : PureSound Try.prog 147 RBegins := by
  have hR : Rely Try.prog (ctxOf [(72, .pure RIn), (97, .pure RPartsL)]) :=
    rely_cons b_impl_inRange.has s_impl_inRange (rely_cons b_impl_ltlParts.has s_impl_ltlParts (rely_nil mixed))
  refine pure_of_aw b_impl_begins ?_
  rintro xs r objs ⟨l, rfl, rfl, rfl⟩ -
  have hln := length_nodeRows l
  refine ⟨by simp, vc2_sound hR _ _ _ _ _ ?_⟩
  conv => whnf
  repeat' (first
    | (refine And.intro (fun hb => ?_) (fun hb => ?_)
       all_goals (try simp only [decide_eq_true_eq, decide_eq_false_iff_not, Bool.not_eq_true', Bool.not_eq_false', Bool.not_not, ne_eq, length_ints, List.length_map, beq_iff_eq, bne_iff_ne, beq_eq_false_iff_ne, bne_eq_false_iff_eq, Int.not_le, Int.not_lt, ge_iff_le, gt_iff_lt, reduceCtorEq, not_false_eq_true, not_true_eq_false, Bool.false_eq_true, Bool.true_eq_false] at hb)
       all_goals (try (exfalso; omega))
       all_goals conv => whnf)
    | (refine And.intro (live_all rfl) ?_; conv => whnf)
    | (refine And.intro rfl ?_; conv => whnf)
    | (refine ⟨_, IntWalk.i64_in _ (by omega), ?_⟩; conv => whnf)
    | (refine And.intro (okcs_all rfl) ?_; conv => whnf)
    | (refine And.intro (okvs_all rfl) ?_; conv => whnf)
    | (refine And.intro (frees_all rfl) ?_; conv => whnf)
    | (refine And.intro (bsl_all rfl) ?_; conv => whnf)
    | (refine And.intro (lens_all rfl) ?_; conv => whnf)
    | (refine And.intro (Nat.le_of_ble_eq_true rfl) ?_; conv => whnf)
    | (rw [ints_at (by omega)]; conv => whnf)
    | (rw [ints_at0 (by omega)]; conv => whnf)
    | (rw [ints_at' (by omega) (by omega)]; conv => whnf)
    | (refine And.intro (show (_ + 1) * _ ≤ _ by omega) ?_; conv => whnf)
    | (refine And.intro (show _ + 1 ≤ _ by omega) ?_; conv => whnf)
    | (refine And.intro (by first | omega | (simp only [length_ints]; omega)) ?_; conv => whnf)
    | (refine ⟨_, _, RIn_mk, ?_⟩; conv => whnf)
    | fail)
  rotate_left
  · have e : begsL l = none := by unfold begsL; rw [if_neg (by omega)]
    rw [e]
    refine ⟨.inl rfl, ?_⟩
    conv => whnf
    refine ⟨[], ⟨rfl, trivial⟩, ?_, rfl, rfl⟩
    repeat' (first | exact trivial | refine And.intro ?_ ?_)
    all_goals
      conv => whnf
      left
      conv => lhs; whnf
  have hlen : 1 ≤ l.length ∧ l.length ≤ 31 := by omega
  refine Lp.intro (α := Nat × List Int) (fun a => a.1 ≤ l.length ∧ begs l a.1 = some a.2 ∧ a.2.length = a.1) (fun a => l.length - a.1)
    (fun a => [(0, .val (nodeRows l)), (1, .fn 97 []), (6, .ref 0 0 l.length), (16, .val (nodeRows l)), (17, .int .i64 l.length), (18, .int .i64 a.1)]) (fun a => [some (.arr 1 (ints (a.2 ++ List.replicate (l.length - a.1) 0)))]) ?_ ?_
  · refine ⟨(0, []), ⟨by simp, rfl, rfl⟩, [some 0], rfl, rfl, And.intro (And.intro rfl ?_) trivial, ?_⟩
    · simp [ints, nodeRows]
    · repeat' (first
        | exact trivial
        | refine ⟨?_, ?_⟩
        | fail)
      all_goals first
        | with_reducible rfl
        | (conv => whnf
           try left
           conv => lhs; whnf
           first
             | rfl
             | exact congrArg (AV.int .i64) (by omega)
             | skip)
      simp [nodeRows]
  · rintro ⟨i, bs⟩ ⟨hi, hbs, hlb⟩
    dsimp only at hi hbs hlb ⊢
    have hX : (bs ++ List.replicate (l.length - i) 0).length = l.length := by simp; omega
    have hXi := length_ints (bs ++ List.replicate (l.length - i) 0)
    obtain ⟨_, hbnd⟩ := begs_bound i bs hbs
    have hp1 : 0 < i → 0 ≤ bs.getD (i - 1) 0 ∧ bs.getD (i - 1) 0 ≤ i := fun h0 => by
      have := hbnd (i - 1) (by omega)
      omega
    refine vc2_sound hR _ _ _ _ _ ?_
    conv => whnf
    repeat' (first
      | (refine And.intro (fun hb => ?_) (fun hb => ?_)
         all_goals (try simp only [decide_eq_true_eq, decide_eq_false_iff_not, Bool.not_eq_true', Bool.not_eq_false', Bool.not_not, ne_eq, length_ints, List.length_map, beq_iff_eq, bne_iff_ne, beq_eq_false_iff_ne, bne_eq_false_iff_eq, Int.not_le, Int.not_lt, ge_iff_le, gt_iff_lt, reduceCtorEq, not_false_eq_true, not_true_eq_false, Bool.false_eq_true, Bool.true_eq_false] at hb)
         all_goals (try (exfalso; omega))
         all_goals conv => whnf)
      | (refine And.intro (live_all rfl) ?_; conv => whnf)
      | (refine And.intro rfl ?_; conv => whnf)
      | (refine ⟨_, IntWalk.i64_in _ (by omega), ?_⟩; conv => whnf)
      | (refine And.intro (okcs_all rfl) ?_; conv => whnf)
      | (refine And.intro (okvs_all rfl) ?_; conv => whnf)
      | (refine And.intro (frees_all rfl) ?_; conv => whnf)
      | (refine And.intro (bsl_all rfl) ?_; conv => whnf)
      | (refine And.intro (lens_all rfl) ?_; conv => whnf)
      | (refine And.intro (Nat.le_of_ble_eq_true rfl) ?_; conv => whnf)
      | (rw [ints_at (by omega)]; conv => whnf)
      | (rw [ints_at0 (by omega)]; conv => whnf)
      | (rw [ints_at' (by omega) (by omega)]; conv => whnf)
      | (refine And.intro (show (_ + 1) * _ ≤ _ by omega) ?_; conv => whnf)
      | (refine And.intro (show _ + 1 ≤ _ by omega) ?_; conv => whnf)
      | (refine And.intro (by first | omega | (simp only [length_ints]; omega)) ?_; conv => whnf)
      | (rw [node_at (by omega)]; conv => whnf)
      | (refine ⟨_, _, RPartsL_mk (n := l.getD i default), ?_⟩; conv => whnf)
      | (rw [ints_atJ (by omega) (by omega)]; conv => whnf)
      | (rw [set_at (by omega)]; conv => whnf)
      | (rw [set_ne' (by omega) (by omega)]; conv => whnf)
      | (rw [set_ne (by omega) (by omega) (by omega)]; conv => whnf)
      | fail)
    all_goals first
      | (have e := begsL_fail (by omega) hbs (by simp only [beginAt]; (repeat' split) <;> first | rfl | omega)
         rw [e]
         refine ⟨.inl rfl, ?_⟩
         conv => whnf
         refine ⟨[], ⟨rfl, trivial⟩, ?_, rfl, rfl⟩
         repeat' (first | exact trivial | refine And.intro ?_ ?_)
         all_goals
           conv => whnf
           left
           conv => lhs; whnf
         done)
      | skip
    · refine ⟨(i + 1, bs ++ [(i : Int)]), ⟨by dsimp only; omega, begs_next hbs (by simp only [beginAt]; (repeat' split) <;> first | rfl | omega), by simp [hlb]⟩, by dsimp only; omega, [some 0], rfl, rfl, And.intro (And.intro rfl ?_) trivial, ?_⟩
      · exact fill_at hlb.symm (by omega)
      · repeat' (first
          | exact trivial
          | refine ⟨?_, ?_⟩
          | fail)
        all_goals first
          | with_reducible rfl
          | (conv => whnf
             try left
             conv => lhs; whnf
             first
               | rfl
               | exact congrArg (AV.int .i64) (by omega)
               | skip)
    · refine ⟨(i + 1, bs ++ [bs.getD (l.getD i default).a.toNat 0]), ⟨by dsimp only; omega, begs_next hbs (by simp only [beginAt]; (repeat' split) <;> first | rfl | omega), by simp [hlb]⟩, by dsimp only; omega, [some 0], rfl, rfl, And.intro (And.intro rfl ?_) trivial, ?_⟩
      · exact (List.set_set _ ..).trans (fill_at hlb.symm (by omega))
      · repeat' (first
          | exact trivial
          | refine ⟨?_, ?_⟩
          | fail)
        all_goals first
          | with_reducible rfl
          | (conv => whnf
             try left
             conv => lhs; whnf
             first
               | rfl
               | exact congrArg (AV.int .i64) (by omega)
               | skip)
    · refine ⟨(i + 1, bs ++ [bs.getD (l.getD i default).a.toNat 0]), ⟨by dsimp only; omega, begs_next hbs (by simp only [beginAt]; (repeat' split) <;> first | rfl | omega), by simp [hlb]⟩, by dsimp only; omega, [some 0], rfl, rfl, And.intro (And.intro rfl ?_) trivial, ?_⟩
      · exact (List.set_set _ ..).trans (fill_at hlb.symm (by omega))
      · repeat' (first
          | exact trivial
          | refine ⟨?_, ?_⟩
          | fail)
        all_goals first
          | with_reducible rfl
          | (conv => whnf
             try left
             conv => lhs; whnf
             first
               | rfl
               | exact congrArg (AV.int .i64) (by omega)
               | skip)
    all_goals
      have hil : i = l.length := by omega
      have e : begsL l = some bs := by unfold begsL; rw [if_pos hlen, ← hil, hbs]
      have e2 : bs ++ List.replicate (l.length - i) 0 = bs := by rw [hil]; simp
      have e3 : (((nodeRows l).length : Int) - 1).toNat = bs.length - 1 := by omega
      rw [e2, e3] at hb
      rw [e]
      refine ⟨.inl rfl, ?_⟩
      conv => whnf
      refine ⟨[some 0], ⟨rfl, And.intro (And.intro rfl (congrArg ints e2)) trivial⟩, ?_, rfl, by simp [begO, AObj.nov, ints_nov]⟩
      refine And.intro (congrArg (AV.ref 0 0) (by omega)) (And.intro (.inl (congrArg AV.bool ?_)) trivial)
      rw [List.getD_eq_getElem?_getD] at hb
      simp [hb]

/-- the program's test, by beginnings -/
def treeL (l : List NodeD) : Bool := match begsL l with
  | none => false
  | some bs => decide (bs.getD (bs.length - 1) 0 = 0)
def RTreeL (xs : List AV) (r : AV) (objs : List AObj) : Prop := ∃ l, xs = [.val (nodeRows l), .fn 97 []] ∧ r = .bool (treeL l) ∧ objs = []
theorem RTreeL_mk {l : List NodeD} : RTreeL [.val (nodeRows l), .fn 97 []] (.bool (treeL l)) [] := ⟨l, rfl, rfl, rfl⟩
theorem RBegins_none {l : List NodeD} (h : begsL l = none) : RBegins [.val (nodeRows l), .fn 97 []] (.tup [.snil, .bool false]) [] := ⟨l, rfl, by rw [h]; rfl, by rw [h]; rfl⟩
theorem RBegins_some {l : List NodeD} {bs : List Int} (h : begsL l = some bs) : RBegins [.val (nodeRows l), .fn 97 []] (.tup [.ref 0 0 bs.length, .bool (decide (bs.getD (bs.length - 1) 0 = 0))]) [.arr 1 (ints bs)] := ⟨l, rfl, by rw [h]; rfl, by rw [h]; rfl⟩

theorem s_impl_isTree : PureSound Try.prog 101 RTreeL := by
  have hR : Rely Try.prog (ctxOf [(147, .pure RBegins)]) := rely_cons b_impl_begins.has s_impl_begins (rely_nil mixed)
  refine pure_of_aw b_impl_isTree ?_
  rintro xs r objs ⟨l, rfl, rfl, rfl⟩ -
  refine ⟨by simp, vc2_sound hR _ _ _ _ _ ?_⟩
  cases h : begsL l with
  | none =>
    conv => whnf
    repeat' (first
      | (refine And.intro (fun hb => ?_) (fun hb => ?_)
         all_goals (try simp only [decide_eq_true_eq, decide_eq_false_iff_not, Bool.not_eq_true', Bool.not_eq_false', Bool.not_not, ne_eq, length_ints, List.length_map, beq_iff_eq, bne_iff_ne, beq_eq_false_iff_ne, bne_eq_false_iff_eq, Int.not_le, Int.not_lt, ge_iff_le, gt_iff_lt, reduceCtorEq, not_false_eq_true, not_true_eq_false, Bool.false_eq_true, Bool.true_eq_false] at hb)
         all_goals (try (exfalso; omega))
         all_goals conv => whnf)
      | (refine And.intro (live_all rfl) ?_; conv => whnf)
      | (refine And.intro rfl ?_; conv => whnf)
      | (refine ⟨_, IntWalk.i64_in _ (by omega), ?_⟩; conv => whnf)
      | (refine And.intro (okcs_all rfl) ?_; conv => whnf)
      | (refine And.intro (okvs_all rfl) ?_; conv => whnf)
      | (refine And.intro (frees_all rfl) ?_; conv => whnf)
      | (refine And.intro (bsl_all rfl) ?_; conv => whnf)
      | (refine And.intro (lens_all rfl) ?_; conv => whnf)
      | (refine And.intro (Nat.le_of_ble_eq_true rfl) ?_; conv => whnf)
      | (rw [ints_at (by omega)]; conv => whnf)
      | (rw [ints_at0 (by omega)]; conv => whnf)
      | (rw [ints_at' (by omega) (by omega)]; conv => whnf)
      | (refine And.intro (show (_ + 1) * _ ≤ _ by omega) ?_; conv => whnf)
      | (refine And.intro (show _ + 1 ≤ _ by omega) ?_; conv => whnf)
      | (refine And.intro (by first | omega | (simp only [length_ints]; omega)) ?_; conv => whnf)
      | (refine ⟨_, _, RBegins_none h, ?_⟩; conv => whnf)
      | fail)
    refine ⟨.inl rfl, ?_⟩
    conv => whnf
    refine ⟨[], ⟨rfl, trivial⟩, ?_, rfl, rfl⟩
    conv => whnf
    left
    conv => lhs; whnf
    simp [treeL, h]
  | some bs =>
    conv => whnf
    repeat' (first
      | (refine And.intro (fun hb => ?_) (fun hb => ?_)
         all_goals (try simp only [decide_eq_true_eq, decide_eq_false_iff_not, Bool.not_eq_true', Bool.not_eq_false', Bool.not_not, ne_eq, length_ints, List.length_map, beq_iff_eq, bne_iff_ne, beq_eq_false_iff_ne, bne_eq_false_iff_eq, Int.not_le, Int.not_lt, ge_iff_le, gt_iff_lt, reduceCtorEq, not_false_eq_true, not_true_eq_false, Bool.false_eq_true, Bool.true_eq_false] at hb)
         all_goals (try (exfalso; omega))
         all_goals conv => whnf)
      | (refine And.intro (live_all rfl) ?_; conv => whnf)
      | (refine And.intro rfl ?_; conv => whnf)
      | (refine ⟨_, IntWalk.i64_in _ (by omega), ?_⟩; conv => whnf)
      | (refine And.intro (okcs_all rfl) ?_; conv => whnf)
      | (refine And.intro (okvs_all rfl) ?_; conv => whnf)
      | (refine And.intro (frees_all rfl) ?_; conv => whnf)
      | (refine And.intro (bsl_all rfl) ?_; conv => whnf)
      | (refine And.intro (lens_all rfl) ?_; conv => whnf)
      | (refine And.intro (Nat.le_of_ble_eq_true rfl) ?_; conv => whnf)
      | (rw [ints_at (by omega)]; conv => whnf)
      | (rw [ints_at0 (by omega)]; conv => whnf)
      | (rw [ints_at' (by omega) (by omega)]; conv => whnf)
      | (refine And.intro (show (_ + 1) * _ ≤ _ by omega) ?_; conv => whnf)
      | (refine And.intro (show _ + 1 ≤ _ by omega) ?_; conv => whnf)
      | (refine And.intro (by first | omega | (simp only [length_ints]; omega)) ?_; conv => whnf)
      | (refine ⟨_, _, RBegins_some h, ?_⟩; conv => whnf)
      | fail)
    all_goals
      rw [List.getD_eq_getElem?_getD] at hb
      refine ⟨.inl rfl, ?_⟩
      conv => whnf
      refine ⟨[], ⟨rfl, trivial⟩, ?_, rfl, rfl⟩
      conv => whnf
      left
      conv => lhs; whnf
      simp [treeL, h, hb]

def RLtlOkI (xs : List AV) (r : AV) (objs : List AObj) : Prop := ∃ l, xs = [.val (nodeRows l)] ∧ r = .bool (treeL l) ∧ objs = []
theorem RLtlOkI_mk {l : List NodeD} : RLtlOkI [.val (nodeRows l)] (.bool (treeL l)) [] := ⟨l, rfl, rfl, rfl⟩

theorem s_impl_LtlOk : PureSound Try.prog 41 RLtlOkI := by
  have hR : Rely Try.prog (ctxOf [(101, .pure RTreeL)]) := rely_cons b_impl_isTree.has s_impl_isTree (rely_nil mixed)
  refine pure_of_aw b_impl_LtlOk ?_
  rintro xs r objs ⟨l, rfl, rfl, rfl⟩ -
  refine ⟨by simp, vc2_sound hR _ _ _ _ _ ?_⟩
  cases h : treeL l <;> have hm := RTreeL_mk (l := l) <;> rw [h] at hm
  all_goals
    conv => whnf
    repeat' (first
      | (refine And.intro (fun hb => ?_) (fun hb => ?_)
         all_goals (try simp only [decide_eq_true_eq, decide_eq_false_iff_not, Bool.not_eq_true', Bool.not_eq_false', Bool.not_not, ne_eq, length_ints, List.length_map, beq_iff_eq, bne_iff_ne, beq_eq_false_iff_ne, bne_eq_false_iff_eq, Int.not_le, Int.not_lt, ge_iff_le, gt_iff_lt, reduceCtorEq, not_false_eq_true, not_true_eq_false, Bool.false_eq_true, Bool.true_eq_false] at hb)
         all_goals (try (exfalso; omega))
         all_goals conv => whnf)
      | (refine And.intro (live_all rfl) ?_; conv => whnf)
      | (refine And.intro rfl ?_; conv => whnf)
      | (refine ⟨_, IntWalk.i64_in _ (by omega), ?_⟩; conv => whnf)
      | (refine And.intro (okcs_all rfl) ?_; conv => whnf)
      | (refine And.intro (okvs_all rfl) ?_; conv => whnf)
      | (refine And.intro (frees_all rfl) ?_; conv => whnf)
      | (refine And.intro (bsl_all rfl) ?_; conv => whnf)
      | (refine And.intro (lens_all rfl) ?_; conv => whnf)
      | (refine And.intro (Nat.le_of_ble_eq_true rfl) ?_; conv => whnf)
      | (rw [ints_at (by omega)]; conv => whnf)
      | (rw [ints_at0 (by omega)]; conv => whnf)
      | (rw [ints_at' (by omega) (by omega)]; conv => whnf)
      | (refine And.intro (show (_ + 1) * _ ≤ _ by omega) ?_; conv => whnf)
      | (refine And.intro (show _ + 1 ≤ _ by omega) ?_; conv => whnf)
      | (refine And.intro (by first | omega | (simp only [length_ints]; omega)) ?_; conv => whnf)
      | (refine ⟨_, _, hm, ?_⟩; conv => whnf)
      | fail)
    refine ⟨.inl rfl, ?_⟩
    conv => whnf
    refine ⟨[], ⟨rfl, trivial⟩, ?_, rfl, rfl⟩
    conv => whnf
    left
    conv => lhs; whnf

end Go.Proofs.Ytpfbkblgefddlaa.Ct

