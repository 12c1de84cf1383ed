/- Formulas as text: the program's printer. -/
import Derived.Test.YtpfbkblgefddlaaCtPrint2
import Derived.Test.YtpfbkblgefddlaaCtRead2
namespace Go.Proofs.Ytpfbkblgefddlaa.Ct
set_option linter.unusedSimpArgs false
set_option linter.unusedVariables false
open Go Go.Proofs Go.Proofs.Ytpfbkblgefddlaa.Av

def c_impl_printed : ICode := (.seq (.reg [⟨(some 4), .mv, [(.c (.str []))], none⟩]) (.seq (.reg [⟨(some 9), .mv, [(.t 0)], none⟩, ⟨(some 10), .len, [(.t 9)], none⟩, ⟨(some 11), (.mks 1 16 [(.str [])]), [(.t 10), (.t 10)], none⟩, ⟨(some 5), .mv, [(.t 11)], none⟩]) (.seq (.seq (.reg [⟨(some 12), .mv, [(.t 0)], none⟩, ⟨(some 13), .len, [(.t 12)], none⟩, ⟨(some 14), .mv, [(.c (.int .i64 0))], none⟩]) (.block 0 (.loop (.seq (.reg [⟨(some 15), (.bin .lss), [(.t 14), (.t 13)], none⟩]) (.seq (.cond (.t 15) .skip (.exit 0)) (.seq (.block 1 (.seq (.reg [⟨(some 16), .mv, [(.t 14)], none⟩, ⟨(some 17), (.iadr 3), [(.t 12), (.t 14)], none⟩, ⟨(some 18), (.ldn 3), [(.t 17)], none⟩, ⟨(some 7), (.alc [(.int .i64 0), (.int .i64 0), (.int .i64 0)]), [], none⟩, ⟨(some 6), .mv, [(.t 16)], none⟩, ⟨none, (.st 3), [(.t 7), (.t 18)], none⟩]) (.seq (.reg [⟨(some 19), (.fadr 0), [(.t 7)], none⟩, ⟨(some 20), .ld1, [(.t 19)], none⟩, ⟨(some 21), (.call 144), [(.t 20)], none⟩, ⟨(some 8), .mv, [(.t 21)], none⟩]) (.seq (.reg [⟨(some 22), .mv, [(.t 1)], none⟩, ⟨(some 23), (.ldn 3), [(.t 7)], none⟩, ⟨(some 24), .dyn, [(.t 22), (.t 23)], none⟩]) (.block 2 (.seq (.reg [⟨(some 44), (.bin .eql), [(.t 24), (.c (.int .i64 0))], none⟩, ⟨(some 43), .mv, [(.t 44)], none⟩]) (.cond (.t 43) (.seq (.reg [⟨(some 45), .mv, [(.t 5)], none⟩, ⟨(some 46), .mv, [(.t 6)], none⟩, ⟨(some 47), .mv, [(.t 8)], none⟩, ⟨(some 48), (.iadr 1), [(.t 45), (.t 46)], none⟩, ⟨none, (.st 1), [(.t 48), (.t 47)], none⟩]) (.seq (.reg [⟨(some 49), (.fadr 0), [(.t 7)], none⟩, ⟨(some 50), .ld1, [(.t 49)], none⟩, ⟨(some 51), (.bin .eql), [(.t 50), (.c (.int .i64 3))], none⟩]) (.cond (.t 51) (.reg [⟨(some 52), .mv, [(.t 5)], none⟩, ⟨(some 53), .mv, [(.t 6)], none⟩, ⟨(some 54), (.fadr 1), [(.t 7)], none⟩, ⟨(some 55), .ld1, [(.t 54)], none⟩, ⟨(some 56), (.call 145), [(.t 55)], none⟩, ⟨(some 57), (.iadr 1), [(.t 52), (.t 53)], none⟩, ⟨none, (.st 1), [(.t 57), (.t 56)], none⟩]) .skip))) (.seq (.reg [⟨(some 59), (.bin .eql), [(.t 24), (.c (.int .i64 1))], none⟩, ⟨(some 58), .mv, [(.t 59)], none⟩]) (.cond (.t 58) (.reg [⟨(some 60), .mv, [(.t 5)], none⟩, ⟨(some 61), .mv, [(.t 6)], none⟩, ⟨(some 62), .mv, [(.t 8)], none⟩, ⟨(some 63), .mv, [(.t 5)], none⟩, ⟨(some 64), (.fadr 1), [(.t 7)], none⟩, ⟨(some 65), .ld1, [(.t 64)], none⟩, ⟨(some 66), (.iadr 1), [(.t 63), (.t 65)], none⟩, ⟨(some 67), .ld1, [(.t 66)], none⟩, ⟨(some 68), (.bin .add), [(.t 62), (.t 67)], none⟩, ⟨(some 69), (.iadr 1), [(.t 60), (.t 61)], none⟩, ⟨none, (.st 1), [(.t 69), (.t 68)], none⟩]) (.drw [⟨(some 25), .mv, [(.t 5)], none⟩, ⟨(some 26), .mv, [(.t 6)], none⟩, ⟨(some 27), .mv, [(.t 5)], none⟩, ⟨(some 28), (.fadr 1), [(.t 7)], none⟩, ⟨(some 29), .ld1, [(.t 28)], none⟩, ⟨(some 30), (.iadr 1), [(.t 27), (.t 29)], none⟩, ⟨(some 31), .ld1, [(.t 30)], none⟩, ⟨(some 32), (.bin .add), [(.c (.str [40])), (.t 31)], none⟩, ⟨(some 33), .mv, [(.t 8)], none⟩, ⟨(some 34), (.bin .add), [(.t 32), (.t 33)], none⟩, ⟨(some 35), .mv, [(.t 5)], none⟩, ⟨(some 36), (.fadr 2), [(.t 7)], none⟩, ⟨(some 37), .ld1, [(.t 36)], none⟩, ⟨(some 38), (.iadr 1), [(.t 35), (.t 37)], none⟩, ⟨(some 39), .ld1, [(.t 38)], none⟩, ⟨(some 40), (.bin .add), [(.t 34), (.t 39)], none⟩, ⟨(some 41), (.bin .add), [(.t 40), (.c (.str [41]))], none⟩, ⟨(some 42), (.iadr 1), [(.t 25), (.t 26)], none⟩, ⟨none, (.st 1), [(.t 42), (.t 41)], none⟩] [[], [], [], [], [3], [2, 3, 4], [2, 3, 4, 5], [2, 3, 4, 5, 6], [], [2, 3, 4, 5, 6, 7, 8], [], [], [11], [10, 11, 12], [10, 11, 12, 13], [2, 3, 4, 5, 6, 7, 8, 9, 10, 11, 12, 13, 14], [2, 3, 4, 5, 6, 7, 8, 9, 10, 11, 12, 13, 14, 15], [0, 1, 2, 3, 4, 5, 6, 7, 8, 9, 10, 11, 12, 13, 14, 15, 16], [0, 1, 2, 3, 4, 5, 6, 7, 8, 9, 10, 11, 12, 13, 14, 15, 16, 17]] true true)))))))))) (.reg [⟨(some 70), (.bin .add), [(.t 14), (.c (.int .i64 1))], none⟩, ⟨(some 14), .mv, [(.t 70)], none⟩]))))))) (.seq (.reg [⟨(some 71), .mv, [(.t 5)], none⟩, ⟨(some 72), .mv, [(.t 0)], none⟩, ⟨(some 73), .len, [(.t 72)], none⟩, ⟨(some 74), (.bin .sub), [(.t 73), (.c (.int .i64 1))], none⟩, ⟨(some 75), (.iadr 1), [(.t 71), (.t 74)], none⟩, ⟨(some 76), .ld1, [(.t 75)], none⟩, ⟨(some 4), .mv, [(.t 76)], none⟩]) .ret))))
theorem b_impl_printed : Body Try.prog 96 77 c_impl_printed [(.t 4)] := by
  have h1 : comp Try.prog 77 (Try.f96.body.getD .skip) = some c_impl_printed := by kernel_rfl
  have h2 : Try.f96.body = some (Try.f96.body.getD .skip) := by kernel_rfl
  have h3 : Try.f96.results.toList.map (cRes Try.prog) = [(some (.t 4))] := by kernel_rfl
  exact ⟨_, _, Try.func96, h2, Try.ntmps96, h1, h3, by decide⟩

def c_impl_LtlPrint : ICode := (.seq (.reg [⟨(some 2), .mv, [(.c (.str []))], none⟩]) (.seq (.seq (.reg [⟨(some 3), .mv, [(.t 0)], none⟩, ⟨(some 4), (.call 41), [(.t 3)], none⟩, ⟨(some 5), .not, [(.t 4)], none⟩]) (.cond (.t 5) (.seq (.reg [⟨(some 2), .mv, [(.c (.str []))], none⟩]) .ret) .skip)) (.seq (.reg [⟨(some 6), .mv, [(.t 0)], none⟩, ⟨(some 7), (.call 96), [(.t 6), (.c (.fn 97 []))], none⟩, ⟨(some 2), .mv, [(.t 7)], none⟩]) .ret)))
theorem b_impl_LtlPrint : Body Try.prog 39 8 c_impl_LtlPrint [(.t 2)] := by
  have h1 : comp Try.prog 8 (Try.f39.body.getD .skip) = some c_impl_LtlPrint := by kernel_rfl
  have h2 : Try.f39.body = some (Try.f39.body.getD .skip) := by kernel_rfl
  have h3 : Try.f39.results.toList.map (cRes Try.prog) = [(some (.t 2))] := by kernel_rfl
  exact ⟨_, _, Try.func39, h2, Try.ntmps39, h1, h3, by decide⟩


/-- the text of a node, from the texts of its parts -/
def nodeTxt (n : NodeD) (ts : List (List UInt8)) : List UInt8 :=
  if partsL n = 0 then (if n.kind = 3 then [digitB n.a] else sgn n.kind)
  else if partsL n = 1 then sgn n.kind ++ ts.getD n.a.toNat []
  else [40] ++ ts.getD n.a.toNat [] ++ sgn n.kind ++ ts.getD n.b.toNat [] ++ [41]

def txts (l : List NodeD) : Nat → List (List UInt8)
  | 0 => []
  | i + 1 => txts l i ++ [nodeTxt (l.getD i default) (txts l i)]

theorem length_txts (l : List NodeD) : ∀ i, (txts l i).length = i
  | 0 => rfl
  | i + 1 => by simp [txts, length_txts l i]
theorem txts_get (l : List NodeD) {j : Nat} : ∀ i, j < i → (txts l i).getD j [] = nodeTxt (l.getD j default) (txts l j)
  | 0, h => absurd h (by omega)
  | i + 1, h => by
    simp only [txts]
    rw [List.getD_eq_getElem?_getD, List.getElem?_append]
    by_cases hji : j < i
    · rw [if_pos (by rw [length_txts]; exact hji), ← List.getD_eq_getElem?_getD]
      exact txts_get l i hji
    · have : j = i := by omega
      subst this
      rw [if_neg (by rw [length_txts]; omega), length_txts]
      simp

theorem partsL_leaf {k a : Int} (h : (Tr.leaf k a).ok) : partsL ⟨k, a, 0⟩ = 0 := by
  rcases h with ⟨rfl | rfl, rfl⟩ | ⟨rfl, h0, h1⟩
  · rfl
  · rfl
  · simp [partsL, partsE, leafI, h0, h1]
theorem partsL_one {k a b : Int} (h : k = 4 ∨ k = 7 ∨ k = 10 ∨ k = 11) : partsL ⟨k, a, b⟩ = 1 := by
  rcases h with rfl | rfl | rfl | rfl <;> rfl
theorem partsL_two {k a b : Int} (h : k = 5 ∨ k = 6 ∨ k = 8 ∨ k = 9) : partsL ⟨k, a, b⟩ = 2 := by
  rcases h with rfl | rfl | rfl | rfl <;> rfl

/-- a tree's text stands at its end -/
theorem txts_tree {l : List NodeD} : ∀ (t : Tr) (o i j : Nat), t.ok → t.At l o → o + t.size ≤ i → j + 1 = o + t.size → (txts l i).getD j [] = txt t
  | .leaf k a, o, i, j, ht, h, hi, hj => by
    simp only [Tr.size] at hi hj
    have : j = o := by omega
    subst this
    rw [txts_get l i (by omega), h.2]
    unfold nodeTxt
    rw [partsL_leaf ht, if_pos rfl]
    rfl
  | .one k t, o, i, j, ht, h, hi, hj => by
    simp only [Tr.size] at hi hj
    have hp := t.size_pos
    have : j = o + t.size := by omega
    subst this
    rw [txts_get l i (by omega), h.2.2]
    unfold nodeTxt
    rw [partsL_one ht.1, if_neg (by omega), if_pos rfl]
    have e : (((o + t.size : Nat) : Int) - 1).toNat = o + t.size - 1 := by omega
    simp only [e, txt]
    rw [txts_tree t o (o + t.size) (o + t.size - 1) ht.2 h.1 (by omega) (by omega)]
  | .two k s t, o, i, j, ht, h, hi, hj => by
    simp only [Tr.size] at hi hj
    have hp := t.size_pos
    have hs := s.size_pos
    have : j = o + s.size + t.size := by omega
    subst this
    rw [txts_get l i (by omega), h.2.2.2]
    unfold nodeTxt
    rw [partsL_two ht.1, if_neg (by omega), if_neg (by omega)]
    have e : (((o + s.size : Nat) : Int) - 1).toNat = o + s.size - 1 := by omega
    have e2 : (((o + s.size + t.size : Nat) : Int) - 1).toNat = o + s.size + t.size - 1 := by omega
    simp only [e, e2, txt]
    rw [txts_tree s o (o + s.size + t.size) (o + s.size - 1) ht.2.1 h.1 (by omega) (by omega), txts_tree t (o + s.size) (o + s.size + t.size) (o + s.size + t.size - 1) ht.2.2 h.2.1 (by omega) (by omega)]

/-- every node of a right list ends a tree -/
theorem ltlOk_trees {l : List NodeD} (h : ltlOk l = true) : 1 ≤ l.length ∧ l.length ≤ 31 ∧ ∀ j, j < l.length → ∃ t : Tr, t.ok ∧ t.size ≤ j + 1 ∧ t.At l (j + 1 - t.size) := by
  unfold ltlOk at h
  simp only [Bool.and_eq_true, decide_eq_true_eq] at h
  obtain ⟨⟨h1, h2⟩, h3⟩ := h
  refine ⟨h1.1, h1.2, ?_⟩
  have ha : ∀ j, j < l.length → nodeS (l.getD j default) = true := by
    intro j hj
    rw [List.all_eq_true] at h2
    refine h2 _ ?_
    rw [List.getD_eq_getElem?_getD, List.getElem?_eq_getElem hj]
    exact List.getElem_mem hj
  split at h3
  · rename_i out hs
    intro j hj
    obtain ⟨t, t1, t2, t3, t4⟩ := sizes_tree l.length (Nat.le_refl _) ha out hs j hj
    exact ⟨t, t1, t3, t4⟩
  · cases h3

def strs (l : List (List UInt8)) : List (List AV) := l.map strRow

theorem sset_at {X : List (List UInt8)} {i : Nat} {r : List AV} (h : i < X.length) : ((strs X).set (0 + ((i : Nat) : Int).toNat) r)[0 + ((i : Nat) : Int).toNat]? = some r := by
  rw [Nat.zero_add, Int.toNat_natCast]
  rw [List.getElem?_set_self (by simp [strs]; omega)]
theorem strs_rd {bs Z : List (List UInt8)} {x : Int} {s : List UInt8} (h0 : 0 ≤ x) (h1 : x < bs.length) (hs : bs.getD x.toNat [] = s) : (strs (bs ++ Z))[0 + x.toNat]? = some [.str s] := by
  rw [Nat.zero_add]
  have hx : x.toNat < bs.length := by omega
  rw [← hs]
  simp [strs, List.getElem?_append, hx, List.getD_eq_getElem?_getD, strRow]
theorem str_hole {bs : List (List UInt8)} {i n : Nat} (h : i = bs.length) (hi : i < n) : (strs (bs ++ List.replicate (n - i) []))[0 + ((i : Nat) : Int).toNat]? = some [.str []] := by
  rw [Nat.zero_add, Int.toNat_natCast]
  have hx : 0 < n - i := by omega
  subst h
  simp [strs, List.getElem?_append, hx, strRow]
theorem sfill_at {bs : List (List UInt8)} {i n : Nat} {v : List UInt8} {r : List AV} (hr : r = [.str v]) (h : i = bs.length) (hi : i < n) : (strs (bs ++ List.replicate (n - i) [])).set (0 + ((i : Nat) : Int).toNat) r = strs ((bs ++ [v]) ++ List.replicate (n - (i + 1)) []) := by
  subst hr
  rw [Nat.zero_add, Int.toNat_natCast]
  obtain ⟨m, rfl⟩ : ∃ m, n = i + 1 + m := ⟨n - (i + 1), by omega⟩
  subst h
  have e : bs.length + 1 + m - bs.length = m + 1 := by omega
  have e2 : bs.length + 1 + m - (bs.length + 1) = m := by omega
  rw [e, e2]
  simp [strs, List.replicate_succ, strRow]

def RPrinted (xs : List AV) (r : AV) (objs : List AObj) : Prop := ∃ l, xs = [.val (nodeRows l), .fn 97 []] ∧ ltlOk l = true ∧ r = .str ((txts l l.length).getD (l.length - 1) []) ∧ objs = []
theorem RPrinted_mk {l : List NodeD} (h : ltlOk l = true) : RPrinted [.val (nodeRows l), .fn 97 []] (.str ((txts l l.length).getD (l.length - 1) [])) [] := ⟨l, rfl, h, rfl, rfl⟩
theorem RPartsL_of {n : NodeD} {p : Int} (h : partsL n = p) : RPartsL [.agg (nodeRow n)] (.int .i64 p) [] := ⟨n, rfl, by rw [h], rfl⟩

set_option maxHeartbeats 4000000 in
theorem s_impl_printed : PureSound Try.prog 96 RPrinted := by
  have hR : Rely Try.prog (ctxOf [(144, .pure RSign), (97, .pure RPartsL), (145, .pure RDigit)]) :=
    rely_cons b_impl_signOf.has s_impl_signOf (rely_cons b_impl_ltlParts.has s_impl_ltlParts (rely_cons b_impl_digit.has s_impl_digit (rely_nil mixed)))
  refine pure_of_aw b_impl_printed ?_
  rintro xs r objs ⟨l, rfl, hok, rfl, rfl⟩ -
  have hln := length_nodeRows l
  obtain ⟨hl1, hl2, htr⟩ := ltlOk_trees hok
  refine ⟨by simp, vc2_sound hR _ _ _ _ _ ?_⟩
  conv => whnf
  repeat' (first
    | (refine And.intro (fun hb => ?_) (fun hb => ?_)
       all_goals (try simp only [decide_eq_true_eq, decide_eq_false_iff_not, Bool.not_eq_true', Bool.not_eq_false', Bool.not_not, ne_eq, length_ints, List.length_map, beq_iff_eq, bne_iff_ne, beq_eq_false_iff_ne, bne_eq_false_iff_eq, Int.not_le, Int.not_lt, ge_iff_le, gt_iff_lt, reduceCtorEq, not_false_eq_true, not_true_eq_false, Bool.false_eq_true, Bool.true_eq_false] at hb)
       all_goals (try (exfalso; omega))
       all_goals conv => whnf)
    | (refine And.intro (live_all rfl) ?_; conv => whnf)
    | (refine And.intro rfl ?_; conv => whnf)
    | (refine ⟨_, IntWalk.i64_in _ (by omega), ?_⟩; conv => whnf)
    | (refine And.intro (okcs_all rfl) ?_; conv => whnf)
    | (refine And.intro (okvs_all rfl) ?_; conv => whnf)
    | (refine And.intro (frees_all rfl) ?_; conv => whnf)
    | (refine And.intro (bsl_all rfl) ?_; conv => whnf)
    | (refine And.intro (lens_all rfl) ?_; conv => whnf)
    | (refine And.intro (Nat.le_of_ble_eq_true rfl) ?_; conv => whnf)
    | (rw [ints_at (by omega)]; conv => whnf)
    | (rw [ints_at0 (by omega)]; conv => whnf)
    | (rw [ints_at' (by omega) (by omega)]; conv => whnf)
    | (refine And.intro (show (_ + 1) * _ ≤ _ by omega) ?_; conv => whnf)
    | (refine And.intro (show _ + 1 ≤ _ by omega) ?_; conv => whnf)
    | (refine And.intro (by first | omega | (simp only [length_ints]; omega)) ?_; conv => whnf)
    | fail)
  refine Lp.intro (α := Nat) (fun i => i ≤ l.length) (fun i => l.length - i)
    (fun i => [(0, .val (nodeRows l)), (1, .fn 97 []), (5, .ref 0 0 l.length), (12, .val (nodeRows l)), (13, .int .i64 l.length), (14, .int .i64 i)]) (fun i => [some (.arr 1 (strs (txts l i ++ List.replicate (l.length - i) [])))]) ?_ ?_
  · refine ⟨0, by omega, [some 0], rfl, rfl, And.intro (And.intro rfl ?_) trivial, ?_⟩
    · simp [strs, txts, nodeRows, strRow]
    · repeat' (first
        | exact trivial
        | refine ⟨?_, ?_⟩
        | fail)
      all_goals first
        | with_reducible rfl
        | (conv => whnf
           try left
           conv => lhs; whnf
           first
             | rfl
             | exact congrArg (AV.int .i64) (by omega)
             | skip)
      simp [nodeRows]
  · rintro i hi
    have hX : (txts l i ++ List.replicate (l.length - i) []).length = l.length := by simp [length_txts]; omega
    have hti := length_txts l i
    refine vc2_sound hR _ _ _ _ _ ?_
    by_cases hil : i < l.length
    · obtain ⟨t, t1, t2, t3⟩ := htr i hil
      have hval := txts_tree t (i + 1 - t.size) (i + 1) i t1 t3 (by omega) (by omega)
      have hnext : txts l (i + 1) = txts l i ++ [txt t] := by
        rw [← hval, txts_get l (i + 1) (by omega)]; rfl
      have hlt := length_txt t
      cases t with
      | leaf k a =>
        simp only [Tr.size] at t2 t3 hlt
        have hn : l.getD i default = ⟨k, a, 0⟩ := t3.2
        have hps := RPartsL_of (partsL_leaf t1)
        by_cases hk3 : k = 3
        · subst hk3
          have ha : 0 ≤ a ∧ a ≤ 2 := by rcases t1 with ⟨h | h, _⟩ | ⟨_, h⟩ <;> first | omega | exact h
          conv => whnf
          repeat' (first
            | (refine And.intro (fun hb => ?_) (fun hb => ?_)
               all_goals (try simp only [decide_eq_true_eq, decide_eq_false_iff_not, Bool.not_eq_true', Bool.not_eq_false', Bool.not_not, ne_eq, length_ints, List.length_map, beq_iff_eq, bne_iff_ne, beq_eq_false_iff_ne, bne_eq_false_iff_eq, Int.not_le, Int.not_lt, ge_iff_le, gt_iff_lt, reduceCtorEq, not_false_eq_true, not_true_eq_false, Bool.false_eq_true, Bool.true_eq_false] at hb)
               all_goals (try (exfalso; omega))
               all_goals conv => whnf)
            | (refine And.intro (live_all rfl) ?_; conv => whnf)
            | (refine And.intro rfl ?_; conv => whnf)
            | (refine ⟨_, IntWalk.i64_in _ (by omega), ?_⟩; conv => whnf)
            | (refine And.intro (okcs_all rfl) ?_; conv => whnf)
            | (refine And.intro (okvs_all rfl) ?_; conv => whnf)
            | (refine And.intro (frees_all rfl) ?_; conv => whnf)
            | (refine And.intro (bsl_all rfl) ?_; conv => whnf)
            | (refine And.intro (lens_all rfl) ?_; conv => whnf)
            | (refine And.intro (Nat.le_of_ble_eq_true rfl) ?_; conv => whnf)
            | (rw [ints_at (by omega)]; conv => whnf)
            | (rw [ints_at0 (by omega)]; conv => whnf)
            | (rw [ints_at' (by omega) (by omega)]; conv => whnf)
            | (refine And.intro (show (_ + 1) * _ ≤ _ by omega) ?_; conv => whnf)
            | (refine And.intro (show _ + 1 ≤ _ by omega) ?_; conv => whnf)
            | (refine And.intro (by first | omega | (simp only [length_ints]; omega)) ?_; conv => whnf)
            | (rw [node_atJ (by omega) hil hn]; conv => whnf)
            | (refine ⟨_, _, RSign_mk (k := 3), ?_⟩; conv => whnf)
            | (refine ⟨_, _, hps, ?_⟩; conv => whnf)
            | (rw [str_hole (by omega) (by omega)]; conv => whnf)
            | (rw [sset_at (by omega)]; conv => whnf)
            | (refine ⟨_, _, RDigit_mk (n := a) (by omega) (by omega), ?_⟩; conv => whnf)
            | fail)
          refine ⟨i + 1, by omega, by omega, [some 0], rfl, rfl, And.intro (And.intro rfl ?_) trivial, ?_⟩
          · rw [hnext]
            exact (List.set_set _ ..).trans (sfill_at rfl (by omega) hil)
          · repeat' (first
              | exact trivial
              | refine ⟨?_, ?_⟩
              | fail)
            all_goals first
              | with_reducible rfl
              | (conv => whnf
                 try left
                 conv => lhs; whnf
                 first
                   | rfl
                   | exact congrArg (AV.int .i64) (by omega)
                   | skip)
        · conv => whnf
          repeat' (first
            | (refine And.intro (fun hb => ?_) (fun hb => ?_)
               all_goals (try simp only [decide_eq_true_eq, decide_eq_false_iff_not, Bool.not_eq_true', Bool.not_eq_false', Bool.not_not, ne_eq, length_ints, List.length_map, beq_iff_eq, bne_iff_ne, beq_eq_false_iff_ne, bne_eq_false_iff_eq, Int.not_le, Int.not_lt, ge_iff_le, gt_iff_lt, reduceCtorEq, not_false_eq_true, not_true_eq_false, Bool.false_eq_true, Bool.true_eq_false] at hb)
               all_goals (try (exfalso; omega))
               all_goals conv => whnf)
            | (refine And.intro (live_all rfl) ?_; conv => whnf)
            | (refine And.intro rfl ?_; conv => whnf)
            | (refine ⟨_, IntWalk.i64_in _ (by omega), ?_⟩; conv => whnf)
            | (refine And.intro (okcs_all rfl) ?_; conv => whnf)
            | (refine And.intro (okvs_all rfl) ?_; conv => whnf)
            | (refine And.intro (frees_all rfl) ?_; conv => whnf)
            | (refine And.intro (bsl_all rfl) ?_; conv => whnf)
            | (refine And.intro (lens_all rfl) ?_; conv => whnf)
            | (refine And.intro (Nat.le_of_ble_eq_true rfl) ?_; conv => whnf)
            | (rw [ints_at (by omega)]; conv => whnf)
            | (rw [ints_at0 (by omega)]; conv => whnf)
            | (rw [ints_at' (by omega) (by omega)]; conv => whnf)
            | (refine And.intro (show (_ + 1) * _ ≤ _ by omega) ?_; conv => whnf)
            | (refine And.intro (show _ + 1 ≤ _ by omega) ?_; conv => whnf)
            | (refine And.intro (by first | omega | (simp only [length_ints]; omega)) ?_; conv => whnf)
            | (rw [node_atJ (by omega) hil hn]; conv => whnf)
            | (refine ⟨_, _, RSign_mk (k := k), ?_⟩; conv => whnf)
            | (refine ⟨_, _, hps, ?_⟩; conv => whnf)
            | (rw [str_hole (by omega) (by omega)]; conv => whnf)
            | (rw [sset_at (by omega)]; conv => whnf)
            | fail)
          have htx : txt (.leaf k a) = sgn k := by simp only [txt]; rw [if_neg hk3]
          refine ⟨i + 1, by omega, by omega, [some 0], rfl, rfl, And.intro (And.intro rfl ?_) trivial, ?_⟩
          · rw [hnext, htx]
            exact sfill_at rfl (by omega) hil
          · repeat' (first
              | exact trivial
              | refine ⟨?_, ?_⟩
              | fail)
            all_goals first
              | with_reducible rfl
              | (conv => whnf
                 try left
                 conv => lhs; whnf
                 first
                   | rfl
                   | exact congrArg (AV.int .i64) (by omega)
                   | skip)
      | one k t =>
        simp only [Tr.size] at t2 t3 hlt
        obtain ⟨hk, t1⟩ := t1
        obtain ⟨h2, ho, hn⟩ := t3
        have eo : i + 1 - (t.size + 1) + t.size = i := by omega
        rw [eo] at hn
        have hps := RPartsL_of (partsL_one (a := (i : Int) - 1) (b := 0) hk)
        have hsz := t.size_pos
        have hsg := length_sgn k
        have hty := length_txt t
        have hs1 : (txts l i).getD ((i : Int) - 1).toNat [] = txt t := txts_tree t (i + 1 - (t.size + 1)) i _ t1 h2 (by omega) (by omega)
        conv => whnf
        repeat' (first
          | (refine And.intro (fun hb => ?_) (fun hb => ?_)
             all_goals (try simp only [decide_eq_true_eq, decide_eq_false_iff_not, Bool.not_eq_true', Bool.not_eq_false', Bool.not_not, ne_eq, length_ints, List.length_map, beq_iff_eq, bne_iff_ne, beq_eq_false_iff_ne, bne_eq_false_iff_eq, Int.not_le, Int.not_lt, ge_iff_le, gt_iff_lt, reduceCtorEq, not_false_eq_true, not_true_eq_false, Bool.false_eq_true, Bool.true_eq_false] at hb)
             all_goals (try (exfalso; omega))
             all_goals conv => whnf)
          | (refine And.intro (live_all rfl) ?_; conv => whnf)
          | (refine And.intro rfl ?_; conv => whnf)
          | (refine ⟨_, IntWalk.i64_in _ (by omega), ?_⟩; conv => whnf)
          | (refine And.intro (okcs_all rfl) ?_; conv => whnf)
          | (refine And.intro (okvs_all rfl) ?_; conv => whnf)
          | (refine And.intro (frees_all rfl) ?_; conv => whnf)
          | (refine And.intro (bsl_all rfl) ?_; conv => whnf)
          | (refine And.intro (lens_all rfl) ?_; conv => whnf)
          | (refine And.intro (Nat.le_of_ble_eq_true rfl) ?_; conv => whnf)
          | (rw [ints_at (by omega)]; conv => whnf)
          | (rw [ints_at0 (by omega)]; conv => whnf)
          | (rw [ints_at' (by omega) (by omega)]; conv => whnf)
          | (refine And.intro (show (_ + 1) * _ ≤ _ by omega) ?_; conv => whnf)
          | (refine And.intro (show _ + 1 ≤ _ by omega) ?_; conv => whnf)
          | (refine And.intro (by first | omega | (simp only [length_ints]; omega)) ?_; conv => whnf)
          | (rw [node_atJ (by omega) hil hn]; conv => whnf)
          | (refine ⟨_, _, RSign_mk (k := k), ?_⟩; conv => whnf)
          | (refine ⟨_, _, hps, ?_⟩; conv => whnf)
          | (rw [str_hole (by omega) (by omega)]; conv => whnf)
          | (rw [strs_rd (by omega) (by omega) hs1]; conv => whnf)
          | fail)
        refine ⟨i + 1, by omega, by omega, [some 0], rfl, rfl, And.intro (And.intro rfl ?_) trivial, ?_⟩
        · rw [hnext]
          exact sfill_at rfl (by omega) hil
        · repeat' (first
            | exact trivial
            | refine ⟨?_, ?_⟩
            | fail)
          all_goals first
            | with_reducible rfl
            | (conv => whnf
               try left
               conv => lhs; whnf
               first
                 | rfl
                 | exact congrArg (AV.int .i64) (by omega)
                 | skip)
      | two k s t =>
        simp only [Tr.size] at t2 t3 hlt
        obtain ⟨hk, hs1, h1⟩ := t1
        obtain ⟨hs2, h2, ho, hn⟩ := t3
        have hsz := s.size_pos
        have htz := t.size_pos
        have eo : i + 1 - (s.size + t.size + 1) + s.size + t.size = i := by omega
        have eo2 : i + 1 - (s.size + t.size + 1) + s.size = i - t.size := by omega
        rw [eo, eo2] at hn
        have hps := RPartsL_of (partsL_two (a := ((i - t.size : Nat) : Int) - 1) (b := (i : Int) - 1) hk)
        have hsg := length_sgn k
        have hty := length_txt t
        have hts := length_txt s
        have hsA : (txts l i).getD (((i - t.size : Nat) : Int) - 1).toNat [] = txt s := txts_tree s (i + 1 - (s.size + t.size + 1)) i _ hs1 hs2 (by omega) (by omega)
        have hsB : (txts l i).getD ((i : Int) - 1).toNat [] = txt t := txts_tree t _ i _ h1 h2 (by omega) (by omega)
        conv => whnf
        repeat' (first
          | (refine And.intro (fun hb => ?_) (fun hb => ?_)
             all_goals (try simp only [decide_eq_true_eq, decide_eq_false_iff_not, Bool.not_eq_true', Bool.not_eq_false', Bool.not_not, ne_eq, length_ints, List.length_map, beq_iff_eq, bne_iff_ne, beq_eq_false_iff_ne, bne_eq_false_iff_eq, Int.not_le, Int.not_lt, ge_iff_le, gt_iff_lt, reduceCtorEq, not_false_eq_true, not_true_eq_false, Bool.false_eq_true, Bool.true_eq_false] at hb)
             all_goals (try (exfalso; omega))
             all_goals conv => whnf)
          | (refine And.intro (live_all rfl) ?_; conv => whnf)
          | (refine And.intro rfl ?_; conv => whnf)
          | (refine ⟨_, IntWalk.i64_in _ (by omega), ?_⟩; conv => whnf)
          | (refine And.intro (okcs_all rfl) ?_; conv => whnf)
          | (refine And.intro (okvs_all rfl) ?_; conv => whnf)
          | (refine And.intro (frees_all rfl) ?_; conv => whnf)
          | (refine And.intro (bsl_all rfl) ?_; conv => whnf)
          | (refine And.intro (lens_all rfl) ?_; conv => whnf)
          | (refine And.intro (Nat.le_of_ble_eq_true rfl) ?_; conv => whnf)
          | (rw [ints_at (by omega)]; conv => whnf)
          | (rw [ints_at0 (by omega)]; conv => whnf)
          | (rw [ints_at' (by omega) (by omega)]; conv => whnf)
          | (refine And.intro (show (_ + 1) * _ ≤ _ by omega) ?_; conv => whnf)
          | (refine And.intro (show _ + 1 ≤ _ by omega) ?_; conv => whnf)
          | (refine And.intro (by first | omega | (simp only [length_ints]; omega)) ?_; conv => whnf)
          | (rw [node_atJ (by omega) hil hn]; conv => whnf)
          | (refine ⟨_, _, RSign_mk (k := k), ?_⟩; conv => whnf)
          | (refine ⟨_, _, hps, ?_⟩; conv => whnf)
          | (rw [str_hole (by omega) (by omega)]; conv => whnf)
          | (rw [strs_rd (by omega) (by omega) hsA]; conv => whnf)
          | (rw [strs_rd (by omega) (by omega) hsB]; conv => whnf)
          | (refine And.intro (by simp only [List.length_append, List.length_cons, List.length_nil]; omega) ?_; conv => whnf)
          | fail)
        refine ⟨i + 1, by omega, by omega, [some 0], rfl, rfl, And.intro (And.intro rfl ?_) trivial, ?_⟩
        · rw [hnext]
          exact sfill_at rfl (by omega) hil
        · repeat' (first
            | exact trivial
            | refine ⟨?_, ?_⟩
            | fail)
          all_goals first
            | with_reducible rfl
            | (conv => whnf
               try left
               conv => lhs; whnf
               first
                 | rfl
                 | exact congrArg (AV.int .i64) (by omega)
                 | skip)
    · have hil' : i = l.length := by omega
      subst hil'
      have hlast : (txts l l.length).getD (((nodeRows l).length : Int) - 1).toNat [] = (txts l l.length).getD (l.length - 1) [] := by
        have : (((nodeRows l).length : Int) - 1).toNat = l.length - 1 := by omega
        rw [this]
      conv => whnf
      repeat' (first
        | (refine And.intro (fun hb => ?_) (fun hb => ?_)
           all_goals (try simp only [decide_eq_true_eq, decide_eq_false_iff_not, Bool.not_eq_true', Bool.not_eq_false', Bool.not_not, ne_eq, length_ints, List.length_map, beq_iff_eq, bne_iff_ne, beq_eq_false_iff_ne, bne_eq_false_iff_eq, Int.not_le, Int.not_lt, ge_iff_le, gt_iff_lt, reduceCtorEq, not_false_eq_true, not_true_eq_false, Bool.false_eq_true, Bool.true_eq_false] at hb)
           all_goals (try (exfalso; omega))
           all_goals conv => whnf)
        | (refine And.intro (live_all rfl) ?_; conv => whnf)
        | (refine And.intro rfl ?_; conv => whnf)
        | (refine ⟨_, IntWalk.i64_in _ (by omega), ?_⟩; conv => whnf)
        | (refine And.intro (okcs_all rfl) ?_; conv => whnf)
        | (refine And.intro (okvs_all rfl) ?_; conv => whnf)
        | (refine And.intro (frees_all rfl) ?_; conv => whnf)
        | (refine And.intro (bsl_all rfl) ?_; conv => whnf)
        | (refine And.intro (lens_all rfl) ?_; conv => whnf)
        | (refine And.intro (Nat.le_of_ble_eq_true rfl) ?_; conv => whnf)
        | (rw [ints_at (by omega)]; conv => whnf)
        | (rw [ints_at0 (by omega)]; conv => whnf)
        | (rw [ints_at' (by omega) (by omega)]; conv => whnf)
        | (refine And.intro (show (_ + 1) * _ ≤ _ by omega) ?_; conv => whnf)
        | (refine And.intro (show _ + 1 ≤ _ by omega) ?_; conv => whnf)
        | (refine And.intro (by first | omega | (simp only [length_ints]; omega)) ?_; conv => whnf)
        | (rw [strs_rd (by omega) (by omega) hlast]; conv => whnf)
        | fail)
      refine ⟨.inl rfl, ?_⟩
      conv => whnf
      refine ⟨[], ⟨rfl, trivial⟩, ?_, rfl, rfl⟩
      conv => whnf
      left
      conv => lhs; whnf

def RLtlPrintI (xs : List AV) (r : AV) (objs : List AObj) : Prop := ∃ l, xs = [.val (nodeRows l)] ∧ r = .str (if treeL l then (txts l l.length).getD (l.length - 1) [] else []) ∧ objs = []
theorem RLtlPrintI_mk {l : List NodeD} : RLtlPrintI [.val (nodeRows l)] (.str (if treeL l then (txts l l.length).getD (l.length - 1) [] else [])) [] := ⟨l, rfl, rfl, rfl⟩

theorem s_impl_LtlPrint : PureSound Try.prog 39 RLtlPrintI := by
  have hR : Rely Try.prog (ctxOf [(41, .pure RLtlOkI), (96, .pure RPrinted)]) := rely_cons b_impl_LtlOk.has s_impl_LtlOk (rely_cons b_impl_printed.has s_impl_printed (rely_nil mixed))
  refine pure_of_aw b_impl_LtlPrint ?_
  rintro xs r objs ⟨l, rfl, rfl, rfl⟩ -
  refine ⟨by simp, vc2_sound hR _ _ _ _ _ ?_⟩
  have ho := RLtlOkI_mk (l := l)
  cases h : treeL l
  · rw [h] at ho
    conv => whnf
    repeat' (first
      | (refine And.intro (fun hb => ?_) (fun hb => ?_)
         all_goals (try simp only [decide_eq_true_eq, decide_eq_false_iff_not, Bool.not_eq_true', Bool.not_eq_false', Bool.not_not, ne_eq, length_ints, List.length_map, beq_iff_eq, bne_iff_ne, beq_eq_false_iff_ne, bne_eq_false_iff_eq, Int.not_le, Int.not_lt, ge_iff_le, gt_iff_lt, reduceCtorEq, not_false_eq_true, not_true_eq_false, Bool.false_eq_true, Bool.true_eq_false] at hb)
         all_goals (try (exfalso; omega))
         all_goals conv => whnf)
      | (refine And.intro (live_all rfl) ?_; conv => whnf)
      | (refine And.intro rfl ?_; conv => whnf)
      | (refine ⟨_, IntWalk.i64_in _ (by omega), ?_⟩; conv => whnf)
      | (refine And.intro (okcs_all rfl) ?_; conv => whnf)
      | (refine And.intro (okvs_all rfl) ?_; conv => whnf)
      | (refine And.intro (frees_all rfl) ?_; conv => whnf)
      | (refine And.intro (bsl_all rfl) ?_; conv => whnf)
      | (refine And.intro (lens_all rfl) ?_; conv => whnf)
      | (refine And.intro (Nat.le_of_ble_eq_true rfl) ?_; conv => whnf)
      | (rw [ints_at (by omega)]; conv => whnf)
      | (rw [ints_at0 (by omega)]; conv => whnf)
      | (rw [ints_at' (by omega) (by omega)]; conv => whnf)
      | (refine And.intro (show (_ + 1) * _ ≤ _ by omega) ?_; conv => whnf)
      | (refine And.intro (show _ + 1 ≤ _ by omega) ?_; conv => whnf)
      | (refine And.intro (by first | omega | (simp only [length_ints]; omega)) ?_; conv => whnf)
      | (refine ⟨_, _, ho, ?_⟩; conv => whnf)
      | fail)
    refine ⟨.inl rfl, ?_⟩
    conv => whnf
    refine ⟨[], ⟨rfl, trivial⟩, ?_, rfl, rfl⟩
    conv => whnf
    left
    conv => lhs; whnf
    rfl
  · rw [h] at ho
    conv => whnf
    repeat' (first
      | (refine And.intro (fun hb => ?_) (fun hb => ?_)
         all_goals (try simp only [decide_eq_true_eq, decide_eq_false_iff_not, Bool.not_eq_true', Bool.not_eq_false', Bool.not_not, ne_eq, length_ints, List.length_map, beq_iff_eq, bne_iff_ne, beq_eq_false_iff_ne, bne_eq_false_iff_eq, Int.not_le, Int.not_lt, ge_iff_le, gt_iff_lt, reduceCtorEq, not_false_eq_true, not_true_eq_false, Bool.false_eq_true, Bool.true_eq_false] at hb)
         all_goals (try (exfalso; omega))
         all_goals conv => whnf)
      | (refine And.intro (live_all rfl) ?_; conv => whnf)
      | (refine And.intro rfl ?_; conv => whnf)
      | (refine ⟨_, IntWalk.i64_in _ (by omega), ?_⟩; conv => whnf)
      | (refine And.intro (okcs_all rfl) ?_; conv => whnf)
      | (refine And.intro (okvs_all rfl) ?_; conv => whnf)
      | (refine And.intro (frees_all rfl) ?_; conv => whnf)
      | (refine And.intro (bsl_all rfl) ?_; conv => whnf)
      | (refine And.intro (lens_all rfl) ?_; conv => whnf)
      | (refine And.intro (Nat.le_of_ble_eq_true rfl) ?_; conv => whnf)
      | (rw [ints_at (by omega)]; conv => whnf)
      | (rw [ints_at0 (by omega)]; conv => whnf)
      | (rw [ints_at' (by omega) (by omega)]; conv => whnf)
      | (refine And.intro (show (_ + 1) * _ ≤ _ by omega) ?_; conv => whnf)
      | (refine And.intro (show _ + 1 ≤ _ by omega) ?_; conv => whnf)
      | (refine And.intro (by first | omega | (simp only [length_ints]; omega)) ?_; conv => whnf)
      | (refine ⟨_, _, ho, ?_⟩; conv => whnf)
      | (refine ⟨_, _, RPrinted_mk (by rw [← treeL_eq]; exact h), ?_⟩; conv => whnf)
      | fail)
    refine ⟨.inl rfl, ?_⟩
    conv => whnf
    refine ⟨[], ⟨rfl, trivial⟩, ?_, rfl, rfl⟩
    conv => whnf
    left
    conv => lhs; whnf
    rfl

end Go.Proofs.Ytpfbkblgefddlaa.Ct

namespace Go.Proofs.Ytpfbkblgefddlaa.Ct
set_option linter.unusedSimpArgs false
set_option linter.unusedVariables false
open Go Go.Proofs Go.Proofs.Ytpfbkblgefddlaa.Av

/-- a tree's nodes stand where they are put -/
theorem Tr.At_of {l : List NodeD} : ∀ (t : Tr) (o : Nat) (a b : List NodeD), l = a ++ (t.enc o ++ b) → a.length = o → t.At l o
  | .leaf k x, o, a, b, h, ha => by
    subst h; subst ha
    simp [Tr.At, Tr.enc, List.getD_eq_getElem?_getD]
  | .one k t, o, a, b, h, ha => by
    have e : l = a ++ (t.enc o ++ ([⟨k, ((o + t.size : Nat) : Int) - 1, 0⟩] ++ b)) := by rw [h]; simp [Tr.enc]
    refine ⟨Tr.At_of t o a _ e ha, ?_, ?_⟩
    · rw [e]; simp [Tr.length_enc]; omega
    · rw [e, List.getD_eq_getElem?_getD, List.getElem?_append_right (by omega), List.getElem?_append_right (by rw [Tr.length_enc]; omega), Tr.length_enc]
      simp [ha]
  | .two k s t, o, a, b, h, ha => by
    have e : l = a ++ (s.enc o ++ (t.enc (o + s.size) ++ ([⟨k, ((o + s.size : Nat) : Int) - 1, ((o + s.size + t.size : Nat) : Int) - 1⟩] ++ b))) := by rw [h]; simp [Tr.enc]
    have e2 : l = (a ++ s.enc o) ++ (t.enc (o + s.size) ++ ([⟨k, ((o + s.size : Nat) : Int) - 1, ((o + s.size + t.size : Nat) : Int) - 1⟩] ++ b)) := by rw [e]; simp
    refine ⟨Tr.At_of s o a _ e ha, Tr.At_of t _ _ _ e2 (by rw [List.length_append, Tr.length_enc, ha]), ?_, ?_⟩
    · rw [e]; simp [Tr.length_enc]; omega
    · rw [e, List.getD_eq_getElem?_getD, List.getElem?_append_right (by omega), List.getElem?_append_right (by rw [Tr.length_enc]; omega), List.getElem?_append_right (by rw [Tr.length_enc, Tr.length_enc]; omega), Tr.length_enc, Tr.length_enc]
      have : o + s.size + t.size - a.length - s.size - t.size = 0 := by omega
      rw [this]
      rfl

theorem begs_stay {l : List NodeD} {i : Nat} {a : List Int} (h : begs l i = some a) : ∀ j b, i ≤ j → begs l j = some b → ∀ k, k < i → b.getD k 0 = a.getD k 0
  | 0, b, hij, hb, k, hk => absurd hk (by omega)
  | j + 1, b, hij, hb, k, hk => by
    by_cases he : i = j + 1
    · subst he; rw [h] at hb; cases hb; rfl
    · simp only [begs] at hb
      split at hb
      · rename_i o ho
        obtain ⟨s, hs, rfl⟩ := Option.map_eq_some_iff.1 hb
        have hl := (begs_bound _ _ ho).1
        rw [getD_app_lt (by omega)]
        exact begs_stay h j o (by omega) ho k hk
      · cases hb

theorem begs_tree {l : List NodeD} : ∀ (t : Tr) (o : Nat), t.ok → t.At l o → ∀ bs, begs l o = some bs → ∃ bs', begs l (o + t.size) = some bs' ∧ bs'.getD (o + t.size - 1) 0 = o
  | .leaf k a, o, ht, h, bs, hb => by
    have hl := (begs_bound _ _ hb).1
    refine ⟨bs ++ [(o : Int)], begs_next hb ?_, ?_⟩
    · rw [h.2]; unfold beginAt; rw [partsL_leaf ht, if_pos rfl]
    · simp only [Tr.size, Nat.add_sub_cancel]
      exact getD_app_eq (by omega)
  | .one k t, o, ht, h, bs, hb => by
    obtain ⟨b1, h1, h2⟩ := begs_tree t o ht.2 h.1 bs hb
    have hp := t.size_pos
    have hl := (begs_bound _ _ h1).1
    refine ⟨b1 ++ [(o : Int)], begs_next (i := o + t.size) h1 ?_, ?_⟩
    · rw [h.2.2]; unfold beginAt
      rw [partsL_one ht.1, if_neg (by omega), if_pos rfl, if_neg (by dsimp only; omega)]
      have e : (((o + t.size : Nat) : Int) - 1).toNat = o + t.size - 1 := by omega
      dsimp only
      rw [e, h2]
    · simp only [Tr.size]
      exact getD_app_eq (by omega)
  | .two k s t, o, ht, h, bs, hb => by
    obtain ⟨b1, h1, h2⟩ := begs_tree s o ht.2.1 h.1 bs hb
    obtain ⟨b2, h3, h4⟩ := begs_tree t (o + s.size) ht.2.2 h.2.1 b1 h1
    have hp := s.size_pos
    have hq := t.size_pos
    have hl := (begs_bound _ _ h3).1
    have hst := begs_stay h1 _ _ (by omega) h3 (o + s.size - 1) (by omega)
    have e : (((o + s.size : Nat) : Int) - 1).toNat = o + s.size - 1 := by omega
    refine ⟨b2 ++ [(o : Int)], ?_, ?_⟩
    · have hn := begs_next (s := (o : Int)) h3 ?_
      · have e3 : o + (Tr.two k s t).size = o + s.size + t.size + 1 := by simp only [Tr.size]; omega
        rw [e3]; exact hn
      · rw [h.2.2.2]; unfold beginAt
        rw [partsL_two ht.1, if_neg (by omega), if_neg (by omega), if_pos rfl]
        dsimp only
        rw [h4, if_neg (by omega), e, hst, h2]
    · exact getD_app_eq (by simp only [Tr.size]; omega)

theorem treeL_enc {t : Tr} (ht : t.ok) (hs : t.size ≤ 31) : treeL (t.enc 0) = true := by
  have hp := t.size_pos
  have hat : t.At (t.enc 0) 0 := Tr.At_of t 0 [] [] (by simp) rfl
  obtain ⟨bs, h1, h2⟩ := begs_tree t 0 ht hat [] rfl
  rw [Nat.zero_add] at h1 h2
  have hl := (begs_bound _ _ h1).1
  unfold treeL begsL
  rw [Tr.length_enc, if_pos ⟨hp, hs⟩, h1]
  simp only [hl]
  rw [h2]
  rfl

/-- what is printed of a tree's list is the tree's text -/
theorem txts_enc {t : Tr} (ht : t.ok) : (txts (t.enc 0) (t.enc 0).length).getD ((t.enc 0).length - 1) [] = txt t := by
  have hp := t.size_pos
  have hat : t.At (t.enc 0) 0 := Tr.At_of t 0 [] [] (by simp) rfl
  rw [Tr.length_enc]
  exact txts_tree t 0 t.size (t.size - 1) ht hat (by omega) (by omega)

end Go.Proofs.Ytpfbkblgefddlaa.Ct

