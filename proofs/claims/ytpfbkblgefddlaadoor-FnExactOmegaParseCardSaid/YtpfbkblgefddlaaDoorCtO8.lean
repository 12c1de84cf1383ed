/- strings.Split at a byte, and the reference's own cut. -/
import Derived.Test.YtpfbkblgefddlaaDoorCtO7
namespace Go.Proofs.YtpfbkblgefddlaaDoor.Ct
set_option linter.unusedSimpArgs false
set_option linter.unusedVariables false
open Go Go.Proofs Go.Proofs.YtpfbkblgefddlaaDoor.Av

theorem rep_at {rows : List (List AV)} {m i : Nat} {z : List AV} (hi : rows.length = i) (hm : 0 < m) : (rows ++ List.replicate m z)[0 + ((i : Nat) : Int).toNat]? = some z := by
  subst hi
  rw [Nat.zero_add, Int.toNat_natCast, List.getElem?_append_right (Nat.le_refl _), Nat.sub_self, List.getElem?_replicate]
  simp [hm]
theorem rep_set {rows : List (List AV)} {m i : Nat} {z r : List AV} (hi : rows.length = i) (hm : 0 < m) : (rows ++ List.replicate m z).set (0 + ((i : Nat) : Int).toNat) r = (rows ++ [r]) ++ List.replicate (m - 1) z := by
  subst hi
  obtain ⟨m, rfl⟩ : ∃ k, m = k + 1 := ⟨m - 1, by omega⟩
  rw [Nat.zero_add, Int.toNat_natCast, List.set_append_right _ _ (Nat.le_refl _), Nat.sub_self, List.replicate_succ]
  simp

def RSplitN (xs : List AV) (r : AV) (objs : List AObj) : Prop := ∃ (s : List UInt8) (c : UInt8), xs = [.str s, .str [c], .int .i64 0, .int .i64 (-1)] ∧ s.length ≤ 1048576 ∧ r = .ref 0 0 (pieces s c).length ∧ objs = [.arr 1 (strRows (pieces s c))]
theorem RSplitN_mk {s : List UInt8} {c : UInt8} (h : s.length ≤ 1048576) : RSplitN [.str s, .str [c], .int .i64 0, .int .i64 (-1)] (.ref 0 0 (pieces s c).length) [.arr 1 (strRows (pieces s c))] := ⟨s, c, rfl, h, rfl, rfl⟩

set_option maxHeartbeats 8000000 in
theorem s_genSplit : PureSound Tryd.prog 18 RSplitN := by
  have hR : Rely Tryd.prog (ctxOf [(25, .pure RCount1), (26, .pure RIndex1)]) := rely_cons b_strings_Count.has s_Count (rely_cons b_strings_Index.has s_Index1 (rely_nil mixed))
  refine pure_of_aw b_strings_genSplit ?_
  rintro xs r objs ⟨s, c, rfl, hs, rfl, rfl⟩ -
  have hcl : s.count c ≤ s.length := List.count_le_length
  have hpl := pieces_len c s
  refine ⟨by simp, vc2_sound hR _ _ _ _ _ ?_⟩
  conv => whnf
  repeat' ((first
    | contradiction
    | (refine And.intro (fun hb => ?_) (fun hb => ?_) <;> first | contradiction | ((try simp only [SB, reduceCtorEq] at hb); try (exfalso; first | contradiction | omega)))
    | refine And.intro rfl ?_
    | refine ⟨_, IntWalk.i64_in _ (by omega), ?_⟩
    | rw [ints_at (by omega)]
    | rw [ints_at0 (by omega)]
    | rw [ints_at' (by omega) (by omega)]
    | refine And.intro (lens_all rfl) ?_
    | refine And.intro (show _ ≤ _ ∧ (_ + 1) * _ ≤ _ ∧ _ + 1 ≤ _ by first | omega | (simp; omega)) ?_
    | refine And.intro (show 1 * _ ≤ _ ∧ 1 ≤ _ by omega) ?_
    | refine And.intro (by first | omega | (simp; omega) | (show _ ∧ _; simp; done)) ?_
    | refine ⟨_, _, RCount1_mk, ?_⟩
    | fail) <;> conv => whnf)
  have hmin : (if (s.length : Int) + 1 < (s.count c : Nat) + 1 then (s.length : Int) + 1 else (s.count c : Nat) + 1) = (s.count c : Nat) + 1 := if_neg (by omega)
  rw [hmin]
  refine Lp.intro (α := List (List UInt8) × List UInt8) (fun a => a.1 ++ pieces a.2 c = pieces s c ∧ a.2.length ≤ s.length) (fun a => a.2.length)
    (fun a => [(0, .str a.2), (1, .str [c]), (2, .int .i64 0), (3, .int .i64 (s.count c : Nat)), (9, .ref 0 0 (s.count c + 1)), (10, .int .i64 a.1.length)])
    (fun a => [some (.arr 1 (strRows a.1 ++ List.replicate (s.count c + 1 - a.1.length) [.str []]))]) ?_ ?_
  · refine ⟨([], s), ⟨rfl, Nat.le_refl _⟩, [some 0], rfl, rfl, And.intro (And.intro rfl ?_) trivial, ?_⟩
    · show List.replicate (((s.count c : Nat) : Int) + 1).toNat _ = _
      have : (((s.count c : Nat) : Int) + 1).toNat = s.count c + 1 := by omega
      rw [this]
      simp [strRows]
    · repeat' (first
        | exact trivial
        | refine ⟨?_, ?_⟩
        | fail)
      all_goals first
        | with_reducible rfl
        | (conv => whnf
           try left
           conv => lhs; whnf
           first
             | rfl
             | exact congrArg (AV.int .i64) (by omega)
             | skip)
  · rintro ⟨d, t⟩ ⟨hd, hl⟩
    dsimp only at hd hl ⊢
    have hlen : d.length + t.count c = s.count c := by
      have := congrArg List.length hd
      rw [List.length_append, pieces_len, pieces_len] at this
      omega
    have hdl := length_strRows d
    have hneg : Lib.indexByte t c < 0 → t.count c = 0 := fun h => by
      have := pieces_len c t
      rw [pieces_nix h] at this
      simpa using this
    have hpos : 0 ≤ Lib.indexByte t c → Lib.indexByte t c < t.length := indexByte_lt
    refine vc2_sound hR _ _ _ _ _ ?_
    conv => whnf
    repeat' ((first
      | contradiction
      | (refine And.intro (fun hb => ?_) (fun hb => ?_) <;> first | contradiction | ((try simp only [SB, reduceCtorEq] at hb); try (exfalso; first | contradiction | omega)))
      | refine And.intro rfl ?_
      | refine ⟨_, IntWalk.i64_in _ (by omega), ?_⟩
      | rw [ints_at (by omega)]
      | rw [ints_at0 (by omega)]
      | rw [ints_at' (by omega) (by omega)]
      | refine And.intro (lens_all rfl) ?_
      | refine And.intro (show _ ≤ _ ∧ (_ + 1) * _ ≤ _ ∧ _ + 1 ≤ _ by first | omega | (simp; omega)) ?_
      | refine And.intro (show 1 * _ ≤ _ ∧ 1 ≤ _ by omega) ?_
      | refine And.intro (by first | omega | (simp; omega) | (show _ ∧ _; simp; done)) ?_
      | refine ⟨_, _, RIndex1_mk, ?_⟩
      | rw [rep_at hdl (by omega)]
      | rw [show ([c] : List UInt8).length = 1 from rfl]
      | fail) <;> conv => whnf)
    · have hlt := hpos hb
      have e1 : (Lib.indexByte t c + 0 - 0).toNat = (Lib.indexByte t c).toNat := by omega
      have e2 : (Lib.indexByte t c + 1).toNat = (Lib.indexByte t c).toNat + 1 := by omega
      have e3 : ((t.length : Int) - (Lib.indexByte t c + 1)).toNat = (t.drop ((Lib.indexByte t c).toNat + 1)).length := by simp; omega
      refine ⟨(d ++ [t.take (Lib.indexByte t c).toNat], t.drop ((Lib.indexByte t c).toNat + 1)), ⟨by rw [← hd, pieces_ix hb]; simp, by simp; omega⟩, by simp; omega, [some 0], rfl, rfl, And.intro (And.intro rfl ?_) trivial, ?_⟩
      · rw [rep_set hdl (by omega), e1]
        simp [strRows, strRow, sub, Nat.sub_sub]
      · refine ⟨.inl (congrArg AV.str ?_), .inl rfl, .inl rfl, .inl rfl, rfl, .inl (congrArg (AV.int .i64) (by simp)), trivial⟩
        show sub t (Lib.indexByte t c + 1).toNat ((t.length : Int) - (Lib.indexByte t c + 1)).toNat = _
        rw [e2, e3, sub, List.take_length]
    · have h0 : t.count c = 0 := by omega
      have hn : pieces t c = [t] := by
        have h1 : Lib.indexByte t c < 0 := by
          rcases Int.lt_or_le (Lib.indexByte t c) 0 with h | h
          · exact h
          · have := pieces_len c t
            have h2 := pieces_len c (t.drop ((Lib.indexByte t c).toNat + 1))
            rw [pieces_ix h] at this
            simp at this
            omega
        exact pieces_nix h1
      refine ⟨.inl rfl, ?_⟩
      conv => whnf
      refine ⟨[some 0], ⟨rfl, And.intro (And.intro rfl ?_) trivial⟩, ?_, rfl, by simp [AObj.nov, strRows_nov]⟩
      · rw [rep_set hdl (by omega), ← hd, hn]
        have : s.count c + 1 - d.length - 1 = 0 := by omega
        rw [this]
        simp [strRows, strRow]
      · refine congrArg (AV.ref 0 0) ?_
        rw [hpl]
        omega

def RSplit (xs : List AV) (r : AV) (objs : List AObj) : Prop := ∃ (s : List UInt8) (c : UInt8), xs = [.str s, .str [c]] ∧ s.length ≤ 1048576 ∧ r = .ref 0 0 (pieces s c).length ∧ objs = [.arr 1 (strRows (pieces s c))]
theorem RSplit_mk {s : List UInt8} {c : UInt8} (h : s.length ≤ 1048576) : RSplit [.str s, .str [c]] (.ref 0 0 (pieces s c).length) [.arr 1 (strRows (pieces s c))] := ⟨s, c, rfl, h, rfl, rfl⟩

theorem s_Split : PureSound Tryd.prog 11 RSplit := by
  have hR : Rely Tryd.prog (ctxOf [(18, .pure RSplitN)]) := rely_cons b_strings_genSplit.has s_genSplit (rely_nil mixed)
  refine pure_of_aw b_strings_Split ?_
  rintro xs r objs ⟨s, c, rfl, hs, rfl, rfl⟩ -
  refine ⟨by simp, vc2_sound hR _ _ _ _ _ ?_⟩
  conv => whnf
  repeat' ((first
    | contradiction
    | (refine And.intro (fun hb => ?_) (fun hb => ?_) <;> first | contradiction | ((try simp only [SB, reduceCtorEq] at hb); try (exfalso; first | contradiction | omega)))
    | refine And.intro rfl ?_
    | refine ⟨_, IntWalk.i64_in _ (by omega), ?_⟩
    | rw [ints_at (by omega)]
    | rw [ints_at0 (by omega)]
    | rw [ints_at' (by omega) (by omega)]
    | refine And.intro (lens_all rfl) ?_
    | refine And.intro (show _ ≤ _ ∧ (_ + 1) * _ ≤ _ ∧ _ + 1 ≤ _ by first | omega | (simp; omega)) ?_
    | refine And.intro (show 1 * _ ≤ _ ∧ 1 ≤ _ by omega) ?_
    | refine And.intro (by first | omega | (simp; omega) | (show _ ∧ _; simp; done)) ?_
    | refine ⟨_, _, RSplitN_mk hs, ?_⟩
    | fail) <;> conv => whnf)
  refine ⟨.inl rfl, ?_⟩
  conv => whnf
  exact ⟨[some 0], ⟨rfl, And.intro (And.intro rfl rfl) trivial⟩, rfl, rfl, by simp [AObj.nov, strRows_nov]⟩

def RCutS (xs : List AV) (r : AV) (objs : List AObj) : Prop := ∃ (s : List UInt8) (c : UInt8), xs = [.str s, .int .u8 (c.toNat : Int)] ∧ s.length ≤ 1048576 ∧ r = .ref 0 0 (pieces s c).length ∧ objs = [.arr 1 (strRows (pieces s c))]
theorem RCutS_mk {s : List UInt8} (c : UInt8) (h : s.length ≤ 1048576) : RCutS [.str s, .int .u8 (c.toNat : Int)] (.ref 0 0 (pieces s c).length) [.arr 1 (strRows (pieces s c))] := ⟨s, c, rfl, h, rfl, rfl⟩

theorem str_app {d : List (List UInt8)} {x : List UInt8} : List.take d.length (strRows d) ++ [[AV.str x]] = strRows (d ++ [x]) := by
  rw [List.take_of_length_le (by rw [length_strRows]; exact Nat.le_refl _)]
  simp [strRows, strRow]
theorem getD_drop {t : List UInt8} {a j : Nat} : (t.drop a).getD j 0 = t.getD (a + j) 0 := by
  simp [List.getD_eq_getElem?_getD]

set_option maxHeartbeats 4000000 in
theorem s_l12Cut : PureSound Tryd.prog 9 RCutS := by
  have hR : Rely Tryd.prog (ctxOf []) := rely_nil mixed
  refine pure_of_aw b_spec_l12Cut ?_
  rintro xs r objs ⟨s, c, rfl, hs, rfl, rfl⟩ -
  have hcl : s.count c ≤ s.length := List.count_le_length
  have hpl := pieces_len c s
  refine ⟨by simp, vc2_sound hR _ _ _ _ _ ?_⟩
  conv => whnf
  repeat' ((first
    | contradiction
    | (refine And.intro (fun hb => ?_) (fun hb => ?_) <;> first | contradiction | ((try simp only [SB, reduceCtorEq] at hb); try (exfalso; first | contradiction | omega)))
    | refine And.intro rfl ?_
    | refine ⟨_, IntWalk.i64_in _ (by omega), ?_⟩
    | rw [ints_at (by omega)]
    | rw [ints_at0 (by omega)]
    | rw [ints_at' (by omega) (by omega)]
    | refine And.intro (lens_all rfl) ?_
    | refine And.intro (show _ ≤ _ ∧ (_ + 1) * _ ≤ _ ∧ _ + 1 ≤ _ by first | omega | (simp; omega)) ?_
    | refine And.intro (show 1 * _ ≤ _ ∧ 1 ≤ _ by omega) ?_
    | refine And.intro (by first | omega | (simp; omega) | (show _ ∧ _; simp; done)) ?_
    | fail) <;> conv => whnf)
  refine Lp.intro (α := List (List UInt8) × Nat × Nat) (fun a => (a.2.2 ≤ s.length ∧ a.2.1 ≤ a.2.2 ∧ a.1.length ≤ a.2.2 ∧ a.1 ++ pieces (s.drop a.2.1) c = pieces s c ∧ ∀ j, a.2.1 ≤ j → j < a.2.2 → s.getD j 0 ≠ c) ∨ (a.2.2 = s.length + 1 ∧ a.1.length ≤ a.2.2 ∧ a.1 = pieces s c)) (fun a => s.length + 2 - a.2.2)
    (fun a => [(0, .str s), (1, .int .u8 (c.toNat : Int)), (5, .ref 0 0 a.1.length), (6, .int .i64 a.2.1), (7, .int .i64 a.2.2)]) (fun a => [some (.arr 1 (strRows a.1))]) ?_ ?_
  · refine ⟨([], 0, 0), .inl ⟨Nat.zero_le _, Nat.le_refl _, Nat.le_refl _, by simp, fun j _ h => absurd h (Nat.not_lt_zero _)⟩, [none], rfl, rfl, And.intro rfl trivial, ?_⟩
    exact ⟨.inl rfl, .inl rfl, ⟨rfl, rfl, rfl⟩, .inl rfl, .inl rfl, trivial⟩
  · rintro ⟨d, f, i⟩ hinv
    dsimp only at hinv ⊢
    have hdl := length_strRows d
    rcases hinv with ⟨h1, h2, h3, h4, h5⟩ | ⟨h1, h2, h3⟩
    · refine vc2_sound hR _ _ _ _ _ ?_
      conv => whnf
      repeat' ((first
        | contradiction
        | (refine And.intro (fun hb => ?_) (fun hb => ?_) <;> first | contradiction | ((try simp only [SB, reduceCtorEq] at hb); try (exfalso; first | contradiction | omega)))
        | refine And.intro rfl ?_
        | refine ⟨_, IntWalk.i64_in _ (by omega), ?_⟩
        | rw [ints_at (by omega)]
        | rw [ints_at0 (by omega)]
        | rw [ints_at' (by omega) (by omega)]
        | refine And.intro (lens_all rfl) ?_
        | refine And.intro (show _ ≤ _ ∧ (_ + 1) * _ ≤ _ ∧ _ + 1 ≤ _ by first | omega | (simp; omega)) ?_
        | refine And.intro (show 1 * _ ≤ _ ∧ 1 ≤ _ by omega) ?_
        | refine And.intro (by first | omega | (simp; omega) | (show _ ∧ _; simp; done)) ?_
        | rw [str_idx (by omega)]
        | fail) <;> conv => whnf)
      · have e1 : sub s ((f : Nat) : Int).toNat (((i : Nat) : Int) - ((f : Nat) : Int)).toNat = s.drop f := by
          have e2 : (((i : Nat) : Int) - ((f : Nat) : Int)).toNat = (s.drop f).length := by simp; omega
          rw [sub, e2, Int.toNat_natCast, List.take_length]
        have e3 : pieces (s.drop f) c = [s.drop f] := pieces_none (fun j hj => by
          rw [getD_drop]
          exact h5 _ (by omega) (by simp at hj; omega))
        refine ⟨(d ++ [s.drop f], i + 1, i + 1), .inr ⟨by dsimp only; omega, by simp; omega, by rw [← h4, e3]⟩, by dsimp only; omega, [some 1], rfl, rfl, And.intro (And.intro rfl ?_) trivial, ?_⟩
        · show List.take d.length (strRows d) ++ [[AV.str (sub s ((f : Nat) : Int).toNat (((i : Nat) : Int) - ((f : Nat) : Int)).toNat)]] = _
          rw [e1]
          exact str_app
        · exact ⟨.inl rfl, .inl rfl, congrArg (AV.ref _ 0) (by simp), .inl rfl, .inl rfl, trivial⟩
      · have e1 : sub s ((f : Nat) : Int).toNat (((i : Nat) : Int) - ((f : Nat) : Int)).toNat = (s.drop f).take (i - f) := by
          have e2 : (((i : Nat) : Int) - ((f : Nat) : Int)).toNat = i - f := by omega
          rw [sub, e2, Int.toNat_natCast]
        have e3 : pieces (s.drop f) c = (s.drop f).take (i - f) :: pieces (s.drop (i + 1)) c := by
          have := pieces_hit (c := c) (t := s.drop f) (k := i - f) (by simp; omega) (by rw [getD_drop]; have : f + (i - f) = i := by omega
                                                                                        rw [this]; exact UInt8.toNat_inj.1 (by omega)) (fun j hj => by
            rw [getD_drop]
            exact h5 _ (by omega) (by omega))
          rw [this, List.drop_drop]
          congr 3
          omega
        refine ⟨(d ++ [(s.drop f).take (i - f)], i + 1, i + 1), .inl ⟨by dsimp only; omega, Nat.le_refl _, by simp; omega, by rw [← h4, e3]; simp, fun j h6 h7 => by dsimp only at h6 h7; omega⟩, by dsimp only; omega, [some 1], rfl, rfl, And.intro (And.intro rfl ?_) trivial, ?_⟩
        · show List.take d.length (strRows d) ++ [[AV.str (sub s ((f : Nat) : Int).toNat (((i : Nat) : Int) - ((f : Nat) : Int)).toNat)]] = _
          rw [e1]
          exact str_app
        · exact ⟨.inl rfl, .inl rfl, congrArg (AV.ref _ 0) (by simp), .inl rfl, .inl rfl, trivial⟩
      · refine ⟨(d, f, i + 1), .inl ⟨by dsimp only; omega, by dsimp only; omega, by dsimp only; omega, h4, fun j h6 h7 => ?_⟩, by dsimp only; omega, [some 0], rfl, rfl, And.intro (And.intro rfl rfl) trivial, ?_⟩
        · dsimp only at h6 h7
          by_cases hji : j = i
          · subst hji
            intro he
            have := congrArg UInt8.toNat he
            omega
          · exact h5 j h6 (by omega)
        · exact ⟨.inl rfl, .inl rfl, rfl, .inl rfl, .inl rfl, trivial⟩
    · refine vc2_sound hR _ _ _ _ _ ?_
      conv => whnf
      repeat' ((first
        | contradiction
        | (refine And.intro (fun hb => ?_) (fun hb => ?_) <;> first | contradiction | ((try simp only [SB, reduceCtorEq] at hb); try (exfalso; first | contradiction | omega)))
        | refine And.intro rfl ?_
        | refine ⟨_, IntWalk.i64_in _ (by omega), ?_⟩
        | rw [ints_at (by omega)]
        | rw [ints_at0 (by omega)]
        | rw [ints_at' (by omega) (by omega)]
        | refine And.intro (lens_all rfl) ?_
        | refine And.intro (show _ ≤ _ ∧ (_ + 1) * _ ≤ _ ∧ _ + 1 ≤ _ by first | omega | (simp; omega)) ?_
        | refine And.intro (show 1 * _ ≤ _ ∧ 1 ≤ _ by omega) ?_
        | refine And.intro (by first | omega | (simp; omega) | (show _ ∧ _; simp; done)) ?_
        | fail) <;> conv => whnf)
      refine ⟨.inl rfl, ?_⟩
      conv => whnf
      subst h3
      exact ⟨[some 0], ⟨rfl, And.intro (And.intro rfl rfl) trivial⟩, rfl, rfl, by simp [AObj.nov, strRows_nov]⟩

end Go.Proofs.YtpfbkblgefddlaaDoor.Ct
