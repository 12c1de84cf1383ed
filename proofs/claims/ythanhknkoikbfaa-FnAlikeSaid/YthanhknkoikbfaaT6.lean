/- Part 6 of the proof of FnAlikeSaid: CtComps to CtToAuto. Conditions: none. -/
import Derived.Test.YthanhknkoikbfaaT5
import Derived.Test.YthanhknkoikbfaaT1
import Derived.Test.YthanhknkoikbfaaT4
set_option linter.unusedSimpArgs false
set_option linter.unusedVariables false
namespace Go.Proofs.Ythanhknkoikbfaa.Ct
open Go Go.Proofs Go.Proofs.Ythanhknkoikbfaa.Av Go.Proofs.Ythanhknkoikbfaa.Pl
def c_spec_l6Comps : ICode := (.seq (.reg [O1 2 (.box 5) 0, O1 3 (.box 2) 1, Ol 4 .mv [.c .snil]]) (.seq (.reg [O1 15 (.ldn 5) 2, Ol 16 (.call 170) [.t 15, cb false], O1 5 .mv 16]) (.seq (.reg [O1 17 (.ldn 2) 3, O1 18 (.call 91) 17, O1 6 .mv 18]) (.seq (.reg [O1 19 .mv 6, O2 20 (.mks 1 8 [(.int .i64 0)]) 19 19, O1 7 .mv 20]) (.seq (.reg [O1 21 .mv 7, O1 22 (.fadr 2) 2, O1 23 .ld1 22, Ol 24 (.iadr 1) [.t 21, ci 0], S2 (.st 1) 24 23]) (.seq (.reg [O1 25 .mv 5, O1 26 (.ldn 2) 3, O1 27 .mv 7, O3 28 (.call 171) 25 26 27, O1 8 .mv 28]) (.seq (.reg [O0 29 .bsle, O1 9 .mv 29]) (.seq (.reg [O0 30 .bsle, O1 10 .mv 30]) (.seq (.seq (.reg [Ol 11 .mv [ci 0]]) (.block 0 (.loop (.seq (.seq (.reg [O1 31 .mv 11, O1 32 .mv 6, O1 33 (.fadr 1) 2, O1 34 .ld1 33, O2 35 (.bin .mul) 32 34, O2 36 (.bin .lss) 31 35]) (.cond (.t 36) .skip (.exit 0))) (.seq (.block 1 (.seq (.reg [O1 39 .mv 9, Ol 40 (.bslv 1) [ci (-1)], O2 41 (.app 1 8) 39 40, O1 9 .mv 41]) (.seq (.reg [O1 42 .mv 6, O2 43 (.mks 1 8 [(.int .i64 0)]) 42 42, O1 12 .mv 43]) (.seq (.seq (.drw [O1 44 .mv 8, O1 45 .mv 11, O1 46 (.fadr 1) 2, O1 47 .ld1 46, O2 48 (.bin .quo) 45 47, O2 49 (.iadr 1) 44 48, O1 50 .ld1 49, O1 51 .mv 11, O1 52 (.fadr 1) 2, O1 53 .ld1 52, O2 54 (.bin .rem) 51 53, O2 55 (.call 73) 50 54] (unB [0, 0, 0, 4, 14, 31, 63, 0, 0, 256, 896, 2047] 0) true true) (.cond (.t 55) (.seq (.drw [O1 56 .mv 12, O1 57 .mv 11, O1 58 (.fadr 1) 2, O1 59 .ld1 58, O2 60 (.bin .quo) 57 59, O1 61 .mv 11, O1 62 (.fadr 1) 2, O1 63 .ld1 62, O2 64 (.bin .rem) 61 63, O1 65 (.call 123) 64, O2 66 (.iadr 1) 56 60, S2 (.st 1) 66 65] (unB [0, 0, 0, 4, 14, 0, 0, 64, 224, 480, 1023, 2047] 0) true true) (.reg [O1 67 .mv 5, O1 68 (.ldn 2) 3, O1 69 .mv 12, O3 70 (.call 171) 67 68 69, O1 12 .mv 70])) .skip)) (.reg [O1 71 .mv 10, O1 72 .mv 12, O1 73 (.bslv 1) 72, O2 74 (.app 1 24) 71 73, O1 10 .mv 74]))))) (.reg [O1 37 .mv 11, Ol 38 (.bin .add) [.t 37, ci 1], O1 11 .mv 38])))))) (.seq (.seq (.reg [Ol 13 .mv [ci 0]]) (.block 2 (.loop (.seq (.seq (.reg [O1 75 .mv 13, O1 76 .mv 9, O1 77 .len 76, O2 78 (.bin .lss) 75 77]) (.cond (.t 78) .skip (.exit 2))) (.seq (.block 3 (.seq (.seq (.drw [O1 81 .mv 9, O1 82 .mv 13, O2 83 (.iadr 1) 81 82, O1 84 .ld1 83, Ol 85 (.bin .geq) [.t 84, ci 0], O1 86 .mv 85, Og 87 .mv [.t 8] 86 false, Og 88 .mv [.t 13] 86 false, Og 89 (.fadr 1) [.t 2] 86 false, Og 90 .ld1 [.t 89] 86 false, Og 91 (.bin .quo) [.t 88, .t 90] 86 false, Og 92 (.iadr 1) [.t 87, .t 91] 86 false, Og 93 .ld1 [.t 92] 86 false, Og 94 .mv [.t 13] 86 false, Og 95 (.fadr 1) [.t 2] 86 false, Og 96 .ld1 [.t 95] 86 false, Og 97 (.bin .rem) [.t 94, .t 96] 86 false, Og 98 (.call 73) [.t 93, .t 97] 86 false, Og 99 .not [.t 98] 86 false, Ol 100 .pick [.t 86, cb true, .t 99]] (unB [0, 0, 3, 7, 15, 31, 63, 63, 63, 319, 959, 2047, 4095, 63, 63, 16447, 57407, 131071, 262143, 524287] 0) true true) (.cond (.t 100) (.exit 3) .skip)) (.seq (.reg [O1 101 .mv 13, O1 14 .mv 101]) (.block 4 (.loop (.seq (.seq (.reg [O1 102 .mv 14, O1 103 .mv 9, O1 104 .len 103, O2 105 (.bin .lss) 102 104]) (.cond (.t 105) .skip (.exit 4))) (.seq (.block 5 (.seq (.drw [O1 108 .mv 10, O1 109 .mv 13, O2 110 (.iadr 1) 108 109, O1 111 .ld1 110, O1 112 .mv 14, O1 113 (.fadr 1) 2, O1 114 .ld1 113, O2 115 (.bin .quo) 112 114, O2 116 (.iadr 1) 111 115, O1 117 .ld1 116, O1 118 .mv 14, O1 119 (.fadr 1) 2, O1 120 .ld1 119, O2 121 (.bin .rem) 118 120, O2 122 (.call 73) 117 121, O1 123 .mv 122, Og 124 .mv [.t 10] 123 true, Og 125 .mv [.t 14] 123 true, Og 126 (.iadr 1) [.t 124, .t 125] 123 true, Og 127 .ld1 [.t 126] 123 true, Og 128 .mv [.t 13] 123 true, Og 129 (.fadr 1) [.t 2] 123 true, Og 130 .ld1 [.t 129] 123 true, Og 131 (.bin .quo) [.t 128, .t 130] 123 true, Og 132 (.iadr 1) [.t 127, .t 131] 123 true, Og 133 .ld1 [.t 132] 123 true, Og 134 .mv [.t 13] 123 true, Og 135 (.fadr 1) [.t 2] 123 true, Og 136 .ld1 [.t 135] 123 true, Og 137 (.bin .rem) [.t 134, .t 136] 123 true, Og 138 (.call 73) [.t 133, .t 137] 123 true, Ol 139 .pick [.t 123, .t 138, cb false]] (unB [0, 0, 3, 7, 0, 0, 32, 112, 255, 511, 0, 0, 2048, 7168, 16383, 32767, 65535, 65535, 262143, 524287, 65535, 65535, 2162687, 7405567, 16777215, 33554431, 65535, 65535, 134283263, 469827583, 1073741823, 2147483647] 0) true true) (.cond (.t 139) (.reg [O1 140 .mv 9, O1 141 .mv 14, O1 142 .mv 13, O2 143 (.iadr 1) 140 141, S2 (.st 1) 143 142]) .skip))) (.reg [O1 106 .mv 14, Ol 107 (.bin .add) [.t 106, ci 1], O1 14 .mv 107])))))))) (.reg [O1 79 .mv 13, Ol 80 (.bin .add) [.t 79, ci 1], O1 13 .mv 80])))))) (.seq (.reg [O1 144 .mv 9, O1 4 .mv 144]) .ret)))))))))))
theorem b_spec_l6Comps : Body Try.prog 99 145 c_spec_l6Comps [(.t 4)] := body_mk Try.func99 (by kernel_rfl) (by decide)
noncomputable def begL (g : GenD) (s l : List Int) : List Nat := fromL g s l (oneS (s.length + l.length) 0 g.start.toNat)
def Beg (g : GenD) (s l : List Int) (x : Nat) : Prop := AtS g (begL g s l) x
noncomputable def inR (g : GenD) (s l : List Int) (x : Nat) : List Nat := open Classical in if Beg g s l x then fromL g s l (oneS (s.length + l.length) (x / g.states.toNat) (2 ^ (x % g.states.toNat))) else List.replicate (s.length + l.length) 0
noncomputable def inOwns (g : GenD) (s l : List Int) (x : Nat) : List (List AV) := (List.range x).map fun x => [.own 1 (ints (natsI (inR g s l x)))]
noncomputable def inRows (g : GenD) (s l : List Int) (x : Nat) : List (List AV) := (List.range x).map fun x => [.val (ints (natsI (inR g s l x)))]
@[simp] theorem length_fromL (g : GenD) (s l : List Int) (S : List Nat) : (fromL g s l S).length = s.length + l.length := by simp [fromL]
@[simp] theorem length_inR (g : GenD) (s l : List Int) (x : Nat) : (inR g s l x).length = s.length + l.length := by unfold inR; split <;> simp
@[simp] theorem length_inOwns (g : GenD) (s l : List Int) (x : Nat) : (inOwns g s l x).length = x := by simp [inOwns]
@[simp] theorem length_inRows (g : GenD) (s l : List Int) (x : Nat) : (inRows g s l x).length = x := by simp [inRows]
theorem thaw_in (g : GenD) (s l : List Int) (x : Nat) : (inOwns g s l x).map (List.map AV.thaw) = inRows g s l x := by simp [inOwns, inRows, AV.thaw]
theorem inRows_at {g : GenD} {s l : List Int} {x i : Nat} (h : i < x) : (inRows g s l x)[((i : Nat) : Int).toNat]? = some [.val (ints (natsI (inR g s l i)))] := by
  simp [inRows, h]
theorem snap_in {h : Heap} {id : Nat} {g : GenD} {s l : List Int} {x : Nat} (ho : h id = some (.nst 1 (inOwns g s l x))) : (AV.ref id 0 x).snap h = .val (inRows g s l x) := by
  have e : sub (inOwns g s l x) 0 x = inOwns g s l x := by
    unfold sub
    rw [List.drop_zero, List.take_of_length_le (by simp)]
  simp only [AV.snap, AV.snap1, ho, Nat.zero_add, length_inOwns, Nat.le_refl, if_true, e, thaw_in]
theorem inOwns_succ {g : GenD} {s l : List Int} {x : Nat} : inOwns g s l (x + 1) = inOwns g s l x ++ [[.own 1 (ints (natsI (inR g s l x)))]] := by simp [inOwns, List.range_succ]
theorem inOwns_sealed (g : GenD) (s l : List Int) (x : Nat) : ∀ row ∈ inOwns g s l x, ∀ c ∈ row, c.sealed = true := by
  intro row hr c hc
  obtain ⟨y, _, rfl⟩ := List.mem_map.1 hr
  simp at hc
  subst hc; rfl
theorem fromL_lt {g : GenD} {s l : List Int} {S : List Nat} (p : Nat) : (fromL g s l S).getD p 0 < 2 ^ 31 := by
  by_cases hp : p < s.length + l.length
  · have e : (fromL g s l S).getD p 0 = bitsOf (PtR g s l S p) 31 := by simp [fromL, List.getD_eq_getElem?_getD, hp]
    rw [e]; exact bitsOf_lt
  · rw [List.getD_eq_getElem?_getD, List.getElem?_eq_none (by simp; omega)]
    exact Nat.two_pow_pos 31
theorem inR_lt {g : GenD} {s l : List Int} {x : Nat} (p : Nat) : (inR g s l x).getD p 0 < 2 ^ 31 := by
  unfold inR; split
  · exact fromL_lt p
  · rw [List.getD_eq_getElem?_getD, List.getElem?_replicate]; split <;> exact Nat.two_pow_pos 31
theorem rep_get {α : Type} {n i : Nat} {z : α} (h : i < n) : (List.replicate n z)[i]? = some z := by simp [h]
theorem snap_is {h : Heap} {id len z : Nat} {rows rows' : List (List AV)} (ho : h id = some (.arr z rows)) (hr : rows = rows') (hl : rows'.length = len) : (AV.ref id 0 len).snap h = .val rows' := by
  subst hr; exact snap_all ho hl
theorem one_rows {N i p X : Nat} {v : Int} (hi : i = p) (hv : v = ((X : Nat) : Int)) : (List.replicate ((N : Nat) : Int).toNat [AV.int .i64 0]).set i [.int .i64 v] = ints (natsI (oneS N p X)) := by
  subst hi; subst hv; simp [ints, natsI, oneS, List.map_set]
theorem quo_nat {x : Nat} {b : Int} (hb : 0 ≤ b) (hx : x ≤ 100000000) : IntKind.i64.wrap (Int.tdiv ((x : Nat) : Int) b) = ((x / b.toNat : Nat) : Int) := by
  obtain ⟨n, rfl⟩ := Int.eq_ofNat_of_zero_le hb
  have h1 : Int.tdiv ((x : Nat) : Int) ((n : Nat) : Int) = ((x / n : Nat) : Int) := rfl
  have h2 := Nat.div_le_self x n
  have h3 : (0 : Int) ≤ ((x / n : Nat) : Int) := Int.natCast_nonneg _
  rw [h1, Int.toNat_natCast, IntWalk.i64_in _ (by omega)]
theorem rem_nat {x : Nat} {b : Int} (hb : 0 ≤ b) : Int.tmod ((x : Nat) : Int) b = ((x % b.toNat : Nat) : Int) := by
  obtain ⟨n, rfl⟩ := Int.eq_ofNat_of_zero_le hb
  rfl
theorem in_last {l : List (List AV)} {x : Nat} {r : List AV} (h : l.length = x) : (List.take x l ++ [r])[x]? = some r := by
  subst h; simp
theorem oneS_lt {N p X : Nat} (h : X < 2 ^ 31) (q : Nat) : (oneS N p X).getD q 0 < 2 ^ 31 := by
  rw [oneS_at]; split
  · exact h
  · exact Nat.two_pow_pos 31
theorem in_done {g : GenD} {s l : List Int} {x : Nat} {c : AV} {rs : List (List AV)} (h : rs = ints (natsI (inR g s l x))) : ((List.take x (inOwns g s l x) ++ [[c]]).set x ([c].set 0 (.own 1 rs))) = inOwns g s l (x + 1) := by
  subst h
  rw [inOwns_succ, List.take_of_length_le (by simp)]
  simp [List.set_append]
theorem neg_more {x : Nat} : List.take x (ints (List.replicate x (-1))) ++ [[AV.int .i64 (-1)]] = ints (List.replicate (x + 1) (-1)) := by
  rw [List.take_of_length_le (by simp [ints])]
  simp [ints, List.replicate_succ']
theorem zero_rows {N : Nat} : List.replicate ((N : Nat) : Int).toNat [AV.int .i64 0] = ints (natsI (List.replicate N 0)) := by simp [ints, natsI]
theorem RFromS_eq {xs : List AV} {g : GenD} {s l : List Int} {S : List Nat} (hx : xs = [.val (ints (natsI (succL g false g.edges.length))), wordV s l, .val (ints (natsI S))]) (hg : GenOk g) (hw : LetOk s l) (h1 : s.length ≤ 100) (h2 : l.length ≤ 100) (h3 : 0 < l.length) (h4 : S.length = s.length + l.length) (h5 : ∀ p, S.getD p 0 < 2 ^ 31) :
  RFromS xs (.ref 0 0 (s.length + l.length)) [.arr 1 (ints (natsI (fromL g s l S)))] := ⟨g, s, l, S, hx, hg, hw, h1, h2, h3, h4, h5, rfl, rfl⟩
theorem pa_lt {g : GenD} (hg : GenOk g) {s l : List Int} (hl0 : 0 < l.length) {x y : Nat} (h : PA g s l x y) : y < (s.length + l.length) * g.states.toNat := by
  obtain ⟨h1, e, he, _, _, rfl⟩ := h
  have hi := gmem hg he
  unfold GIn at hi
  exact pt_lt (nextN_lt h1 hl0) (by omega)
theorem beg_iff {g : GenD} (hg : GenOk g) {s l : List Int} (hl0 : 0 < l.length) {x : Nat} : Beg g s l x ↔ Rch (PA g s l) (fun x => x < (s.length + l.length) * g.states.toNat ∧ AtS g (oneS (s.length + l.length) 0 g.start.toNat) x) x := by
  have hb : ∀ p v, ((oneS (s.length + l.length) 0 g.start.toNat).getD p 0).testBit v = true → v < g.states.toNat := fun p v h => by
    have hh := hg.1.2.2
    rw [oneS_at] at h
    split at h
    · have : g.start.toNat < 2 ^ g.states.toNat := by
        rw [show g.start = ((g.start.toNat : Nat) : Int) by omega] at hh
        exact Int.ofNat_lt.1 (by rw [Int.natCast_pow]; exact hh.2.2)
      exact bit_lt this h
    · simp at h
  have key := fun p v => ptR_iff hg (s := s) (l := l) (S := oneS (s.length + l.length) 0 g.start.toNat) (by simp) hl0 hb (p := p) (v := v)
  constructor
  · intro h
    unfold Beg AtS begL at h
    by_cases hd : x / g.states.toNat < s.length + l.length
    · rw [bit_fromL hd, key, pt_eq] at h
      exact h.2.2.2
    · rw [List.getD_eq_getElem?_getD, List.getElem?_eq_none (by simp; omega)] at h
      simp at h
  · intro h
    have hx : x < (s.length + l.length) * g.states.toNat := by
      cases h with
      | base h => exact h.1
      | step _ ha => exact pa_lt hg hl0 ha
    have hn : 0 < g.states.toNat := by
      rcases Nat.eq_zero_or_pos g.states.toNat with h | h
      · rw [h, Nat.mul_zero] at hx; omega
      · exact h
    have hd : x / g.states.toNat < s.length + l.length := Nat.div_lt_of_lt_mul (by rw [Nat.mul_comm]; exact hx)
    have hm := Nat.mod_lt x hn
    have hs := hg.1.2.1
    unfold Beg AtS begL
    rw [bit_fromL hd, key, pt_eq]
    exact ⟨by omega, hm, hd, h⟩
theorem beg_mut {g : GenD} (hg : GenOk g) {s l : List Int} (hl0 : 0 < l.length) (p q : Nat) (h : Beg g s l p) (hm : Rel1 (PA g s l) p q) : Beg g s l q := by
  rw [beg_iff hg hl0] at h ⊢
  exact hm.mono fun x hx => hx ▸ h
def RComps (xs : List AV) (r : AV) (objs : List AObj) : Prop := ∃ (g : GenD) (s l : List Int), xs = [.agg (genRow g), wordV s l] ∧ GenOk g ∧ 0 < g.states ∧ LetOk s l ∧ s.length ≤ 100 ∧ l.length ≤ 100 ∧ 0 < l.length ∧
  r = .ref 0 0 ((s.length + l.length) * g.states.toNat) ∧ objs = [.arr 1 (ints (compsL (PA g s l) (Beg g s l) ((s.length + l.length) * g.states.toNat)))]
set_option maxHeartbeats 8000000 in
theorem s_spec_l6Comps : PureSound Try.prog 99 RComps := by
  have hR : Rely Try.prog (ctxOf [(170, .pure RSucc), (91, .pure RPlacesS), (171, .pure RFromS), (73, .pure RHas), (123, .pure RBit)]) :=
    rely_cons b_spec_l6Succ.has s_spec_l6Succ (rely_cons b_spec_l6Places.has s_spec_l6Places (rely_cons b_spec_l6From.has s_spec_l6From (rely_cons b_spec_l1Has.has s_spec_l1Has (rely_cons b_spec_l1Bit.has s_spec_l1Bit (rely_nil mixed)))))
  refine pure_of_aw b_spec_l6Comps ?_
  rintro xs r objs ⟨g, s, l, rfl, hg, hs0, hw, hs, hl, hl0, rfl, rfl⟩ -
  have hst := hg.1.2.1
  have hstart := hg.1.2.2
  have hsl := (length_ints (natsI (succL g false g.edges.length))).trans ((length_natsI _).trans (length_succL g false _))
  have hon : (ints (List.set (natsI (List.replicate (s.length + l.length) 0)) 0 g.start)).length = s.length + l.length := by simp [ints]
  have hone : (ints (natsI (oneS (s.length + l.length) 0 g.start.toNat))).length = s.length + l.length := by simp [ints]
  refine ⟨by simp, vc2_sound hR _ _ _ _ _ ?_⟩
  have hN : ((s.length + l.length : Nat) : Int) * g.states = (((s.length + l.length) * g.states.toNat : Nat) : Int) := by
    rw [Int.natCast_mul, Int.toNat_of_nonneg hst.1]
  have hNN : (s.length + l.length) * g.states.toNat ≤ 200 * 31 := Nat.mul_le_mul (by omega) (by omega)
  have hlt30 := oneS_lt (N := s.length + l.length) (p := 0) (X := g.start.toNat) (by omega)
  have hdiv : ∀ x, x < (s.length + l.length) * g.states.toNat → x / g.states.toNat < s.length + l.length := fun x hx => Nat.div_lt_of_lt_mul (by rw [Nat.mul_comm]; exact hx)
  have hmod : ∀ x, x % g.states.toNat < g.states.toNat := fun x => Nat.mod_lt x (by omega)
  have hone2 := fun x y => from_one (s := s) (x := x) (y := y) hg hl0
  generalize hM : (s.length + l.length) * g.states.toNat = M at *
  conv => whnf
  repeat' ((first | contradiction | (refine And.intro (fun hb => ?_) (fun hb => ?_) <;> first | contradiction | ((try simp only [SB, reduceCtorEq] at hb); try (exfalso; first | contradiction | omega))) | refine G2 ?_ | rw [ints_at (by omega)] | rw [ints_at0 (by omega)] | rw [ints_at' (by omega) (by omega)] | refine G1 ?_ | refine ⟨_, _, RSucc_eq rfl hg, ?_⟩ | refine ⟨_, _, RPlacesS_eq rfl (by omega) (by omega), ?_⟩ | rw [rep_get (by omega)] | refine ⟨_, _, RFromS_eq (S := oneS (s.length + l.length) 0 g.start.toNat) (args_cons (snap_all rfl hsl) (args_cons rfl (args_cons (snap_is rfl (one_rows rfl (by omega)) hone) rfl))) hg hw hs hl hl0 (by simp) hlt30, ?_⟩ | fail) <;> conv => whnf)
  have hBl : (ints (natsI (begL g s l))).length = s.length + l.length := by simp [ints, begL]
  have hBb : (ints (natsI (begL g s l))) = ints (natsI (fromL g s l (oneS (s.length + l.length) 0 g.start.toNat))) := rfl
  rw [← hBb]
  have hBat : ∀ x, x < M → (ints (natsI (begL g s l)))[((x / g.states.toNat : Nat) : Int).toNat]? = some [.int .i64 (((begL g s l).getD (x / g.states.toNat) 0 : Nat) : Int)] := fun x hx => natsI_at (by simpa [begL] using hdiv x hx)
  have hB31 : ∀ p, (begL g s l).getD p 0 < 2 ^ 31 := fun p => fromL_lt p
  refine Lp.introT (α := Nat) (fun x => x ≤ M) (fun x => M - x)
    (fun x => [(2, .rptr (genRow g) 0), (3, wordP s l), (5, .val (ints (natsI (succL g false g.edges.length)))), (6, .int .i64 ((s.length + l.length : Nat) : Int)), (8, .val (ints (natsI (begL g s l)))), (9, .ref 0 0 x), (10, .ref 1 0 x), (11, .int .i64 x)])
    (fun x => [some (.arr 1 (ints (List.replicate x (-1)))), some (.nst 1 (inOwns g s l x))]) ?_ ?_
  · refine ⟨0, Nat.zero_le _, [none, none], rfl, rfl, And.intro rfl (And.intro rfl trivial), ?_⟩
    exact ⟨.inr rfl, .inr rfl, .inr (snap_all rfl hsl), .inl rfl, .inr (snap_all rfl hBl), ⟨rfl, rfl, rfl⟩, ⟨rfl, rfl, rfl⟩, .inl rfl, trivial⟩
  · intro x hx
    have hrl : (ints (List.replicate x (-1))).length = x := by simp [ints]
    have hil := length_inOwns g s l x
    by_cases hlt : x < M
    · refine Aw.turn (.lax 1 1 _ (.inr rfl) (.refl _ _)) (vc2_sound hR _ _ _ _ _ ?_)
      have hq := quo_nat (x := x) hst.1 (by omega)
      have hr := rem_nat (x := x) hst.1
      have hxm := hmod x
      have hxd := hdiv x hlt
      have hat := hBat x hlt
      obtain ⟨p, hp⟩ : ∃ p, x / g.states.toNat = p := ⟨_, rfl⟩
      obtain ⟨v, hv⟩ : ∃ v, x % g.states.toNat = v := ⟨_, rfl⟩
      have hbg : Beg g s l x ↔ ((begL g s l).getD p 0).testBit v = true := by unfold Beg AtS; rw [hp, hv]
      have hi1 : Beg g s l x → inR g s l x = fromL g s l (oneS (s.length + l.length) p (2 ^ v)) := fun h => by unfold inR; rw [if_pos h, hp, hv]
      have hi2 : ¬ Beg g s l x → inR g s l x = List.replicate (s.length + l.length) 0 := fun h => by unfold inR; rw [if_neg h]
      rw [hp] at hq hxd hat
      rw [hv] at hr hxm
      have hone1 := oneS_lt (N := s.length + l.length) (p := p) (X := 2 ^ v) (Nat.pow_lt_pow_right (by decide) (by omega))
      have hone' : (ints (natsI (oneS (s.length + l.length) p (2 ^ v)))).length = s.length + l.length := by simp [ints]
      conv => whnf
      repeat' ((first | contradiction | (refine And.intro (fun hb => ?_) (fun hb => ?_) <;> first | contradiction | ((try simp only [SB, reduceCtorEq] at hb); try (exfalso; first | contradiction | omega))) | refine G2 ?_ | rw [ints_at (by omega)] | rw [ints_at0 (by omega)] | rw [ints_at' (by omega) (by omega)] | refine G1 ?_ | rw [hN] | refine ⟨_, hq, ?_⟩ | rw [hr] | rw [hat] | refine ⟨_, _, RHas_mk (hB31 _) (by omega) (by omega), ?_⟩ | refine ⟨_, _, RBit_mk (by omega) (by omega), ?_⟩ | rw [rep_get (by omega)] | refine ⟨_, _, RFromS_eq (S := oneS (s.length + l.length) p (2 ^ v)) (args_cons rfl (args_cons rfl (args_cons (snap_is rfl (one_rows (by omega) (by simp)) hone') rfl))) hg hw hs hl hl0 (by simp) hone1, ?_⟩ | fail) <;> conv => whnf)
      · have hin := hi1 (hbg.2 (by assumption))
        refine ⟨_, _, .fold 5 4 x 0 1 1 (List.take x (inOwns g s l x) ++ [[.ref 4 0 (s.length + l.length)]]) [.ref 4 0 (s.length + l.length)] (ints (natsI (fromL g s l (oneS (s.length + l.length) p (2 ^ v))))) rfl rfl (by decide) (in_last hil) _ (by simp [ints]) rfl
          (.clos 5 1 (inOwns g s l (x + 1)) (congrArg (fun r => some (AObj.arx 1 r)) (in_done (by rw [hin]))) (inOwns_sealed _ _ _ _) (.refl _ _)), x + 1, hlt, by omega, [some 2, some 5], rfl, rfl, And.intro (And.intro rfl neg_more) (And.intro (And.intro rfl rfl) trivial), ?_⟩
        exact ⟨.inl rfl, .inl rfl, .inl rfl, .inl rfl, .inl rfl, rfl, rfl, .inl rfl, trivial⟩
      · have hin := hi2 (fun h => absurd (hbg.1 h) (by simp_all))
        refine ⟨_, _, .fold 4 3 x 0 1 1 (List.take x (inOwns g s l x) ++ [[.ref 3 0 (s.length + l.length)]]) [.ref 3 0 (s.length + l.length)] (List.replicate ((s.length + l.length : Nat) : Int).toNat [AV.int .i64 0]) rfl rfl (by decide) (in_last hil) _ (by rw [List.length_replicate]; rfl) rfl
          (.clos 4 1 (inOwns g s l (x + 1)) (congrArg (fun r => some (AObj.arx 1 r)) (in_done (by rw [hin, zero_rows]))) (inOwns_sealed _ _ _ _) (.refl _ _)), x + 1, hlt, by omega, [some 2, some 4], rfl, rfl, And.intro (And.intro rfl neg_more) (And.intro (And.intro rfl rfl) trivial), ?_⟩
        exact ⟨.inl rfl, .inl rfl, .inl rfl, .inl rfl, .inl rfl, rfl, rfl, .inl rfl, trivial⟩
    · obtain rfl : M = x := by omega
      refine vc2_sound hR _ _ _ _ _ ?_
      conv => whnf
      repeat' ((first | contradiction | (refine And.intro (fun hb => ?_) (fun hb => ?_) <;> first | contradiction | ((try simp only [SB, reduceCtorEq] at hb); try (exfalso; first | contradiction | omega))) | refine G2 ?_ | rw [ints_at (by omega)] | rw [ints_at0 (by omega)] | rw [ints_at' (by omega) (by omega)] | refine G1 ?_ | rw [hN] | fail) <;> conv => whnf)
      have hBm := fun p q (h : Beg g s l p) (hm : Mut (PA g s l) p q) => beg_mut hg hl0 p q h hm.1
      have hbeg : ∀ x, x < M → (Beg g s l x ↔ ((begL g s l).getD (x / g.states.toNat) 0).testBit (x % g.states.toNat) = true) := fun x _ => Iff.rfl
      have hin : ∀ x y, x < M → y < M → Beg g s l x → (((inR g s l x).getD (y / g.states.toNat) 0).testBit (y % g.states.toNat) = true ↔ Rel1 (PA g s l) x y) := fun x y hx hy h => by
        unfold inR
        rw [if_pos h]
        exact hone2 x y hx hy
      refine Lp.intro (α := Nat × List Int) (fun c => CpI (PA g s l) (Beg g s l) M c.1 0 c.2 ∧ c.1 ≤ M) (fun c => M - c.1)
        (fun c => [(2, .rptr (genRow g) 0), (8, .val (ints (natsI (begL g s l)))), (9, .ref 0 0 M), (10, .val (inRows g s l M)), (13, .int .i64 c.1)]) (fun c => [some (.arr 1 (ints c.2))]) ?_ ?_
      · refine ⟨(0, List.replicate M (-1)), ⟨cp_start _ _ _, Nat.zero_le _⟩, [some 0], rfl, rfl, And.intro (And.intro rfl rfl) trivial, ?_⟩
        exact ⟨.inl rfl, .inl rfl, rfl, .inr (snap_in rfl), .inl rfl, trivial⟩
      rintro ⟨x, C⟩ ⟨hI, hx⟩
      dsimp only at hI hx ⊢
      have hCl := hI.len
      have hCi := (length_ints C).trans hCl
      refine vc2_sound hR _ _ _ _ _ ?_
      by_cases hlt : x < M
      · have hq := quo_nat (x := x) hst.1 (by omega)
        have hr := rem_nat (x := x) hst.1
        have hxm := hmod x
        have hat := hBat x hlt
        have hbx := hbeg x hlt
        have hinx := fun y hy h => hin x y hlt hy h
        have hiny := fun y hy h => hin y x hy hlt h
        have hxd := hdiv x hlt
        have hrx := inRows_at (g := g) (s := s) (l := l) hlt
        generalize x / g.states.toNat = p at *
        generalize x % g.states.toNat = v at *
        conv => whnf
        repeat' ((first | contradiction | (refine And.intro (fun hb => ?_) (fun hb => ?_) <;> first | contradiction | ((try simp only [SB, reduceCtorEq] at hb); try (exfalso; first | contradiction | omega))) | refine G2 ?_ | rw [ints_at (by omega)] | rw [ints_at0 (by omega)] | rw [ints_at' (by omega) (by omega)] | refine G1 ?_ | refine ⟨_, hq, ?_⟩ | rw [hr] | rw [hat] | refine ⟨_, _, RHas_mk (hB31 _) (by omega) (by omega), ?_⟩ | fail) <;> conv => whnf)
        · refine ⟨(x + 1, C), ⟨hI.skip hlt (.inl (by assumption)), hlt⟩, by dsimp only; omega, [some 0], rfl, rfl, And.intro (And.intro rfl rfl) trivial, ?_⟩
          exact ⟨.inl rfl, .inl rfl, rfl, .inl rfl, .inl rfl, trivial⟩
        · have hb2 : Beg g s l x := hbx.2 (by assumption)
          have hfr := (hI.at0 hlt).fresh (by omega)
          refine Lp.intro (α := Nat × List Int) (fun c => CpI (PA g s l) (Beg g s l) M x c.1 c.2 ∧ c.1 ≤ M) (fun c => M - c.1)
            (fun c => [(2, .rptr (genRow g) 0), (8, .val (ints (natsI (begL g s l)))), (9, .ref 0 0 M), (10, .val (inRows g s l M)), (13, .int .i64 x), (14, .int .i64 c.1)]) (fun c => [some (.arr 1 (ints c.2))]) ?_ ?_
          · refine ⟨(x, C), ⟨hI.enter hBm, hx⟩, [some 0], rfl, rfl, And.intro (And.intro rfl rfl) trivial, ?_⟩
            exact ⟨.inl rfl, .inl rfl, rfl, .inl rfl, .inl rfl, .inl rfl, trivial⟩
          rintro ⟨y, D⟩ ⟨hJ, hy⟩
          dsimp only at hJ hy ⊢
          have hDl := hJ.len
          have hDi := (length_ints D).trans hDl
          refine vc2_sound hR _ _ _ _ _ ?_
          by_cases hyl : y < M
          · have hqy := quo_nat (x := y) hst.1 (by omega)
            have hry := rem_nat (x := y) hst.1
            have hym := hmod y
            have hyd := hdiv y hyl
            have hixy := hinx y hyl hb2
            have hiyx := hiny y hyl
            have hrr := inRows_at (g := g) (s := s) (l := l) hyl
            generalize y / g.states.toNat = py at *
            generalize y % g.states.toNat = vy at *
            have hax := natsI_at (l := inR g s l x) (i := py) (by simpa using hyd)
            have hay := natsI_at (l := inR g s l y) (i := p) (by simpa using hxd)
            conv => whnf
            repeat' ((first | contradiction | (refine And.intro (fun hb => ?_) (fun hb => ?_) <;> first | contradiction | ((try simp only [SB, reduceCtorEq] at hb); try (exfalso; first | contradiction | omega))) | refine G2 ?_ | rw [ints_at (by omega)] | rw [ints_at0 (by omega)] | rw [ints_at' (by omega) (by omega)] | refine G1 ?_ | refine ⟨_, hq, ?_⟩ | refine ⟨_, hqy, ?_⟩ | rw [hr] | rw [hry] | rw [hrx] | rw [hrr] | rw [hax] | rw [hay] | refine ⟨_, _, RHas_mk (inR_lt _) (by omega) (by omega), ?_⟩ | fail) <;> conv => whnf)
            · have h1 := hixy.1 (by assumption)
              have h2 := (hiyx (beg_mut hg hl0 x y hb2 h1)).1 (by assumption)
              refine ⟨(y + 1, D.set y (x : Int)), ⟨hJ.yes hyl hfr hb2 ⟨h1, h2⟩, hyl⟩, by dsimp only; omega, [some 0], rfl, rfl, And.intro (And.intro rfl (ints_set)) trivial, ?_⟩
              exact ⟨.inl rfl, .inl rfl, rfl, .inl rfl, .inl rfl, .inl rfl, trivial⟩
            · have h1 := hixy.1 (by assumption)
              have h2 : ¬ Rel1 (PA g s l) y x := fun h => by
                have := (hiyx (beg_mut hg hl0 x y hb2 h1)).2 h
                simp_all
              refine ⟨(y + 1, D), ⟨hJ.no hyl (fun h => h2 h.2), hyl⟩, by dsimp only; omega, [some 0], rfl, rfl, And.intro (And.intro rfl rfl) trivial, ?_⟩
              exact ⟨.inl rfl, .inl rfl, rfl, .inl rfl, .inl rfl, .inl rfl, trivial⟩
            · have h1 : ¬ Rel1 (PA g s l) x y := fun h => by
                have := hixy.2 h
                simp_all
              refine ⟨(y + 1, D), ⟨hJ.no hyl (fun h => h1 h.1), hyl⟩, by dsimp only; omega, [some 0], rfl, rfl, And.intro (And.intro rfl rfl) trivial, ?_⟩
              exact ⟨.inl rfl, .inl rfl, rfl, .inl rfl, .inl rfl, .inl rfl, trivial⟩
          · conv => whnf
            repeat' ((first | contradiction | (refine And.intro (fun hb => ?_) (fun hb => ?_) <;> first | contradiction | ((try simp only [SB, reduceCtorEq] at hb); try (exfalso; first | contradiction | omega))) | refine G2 ?_ | rw [ints_at (by omega)] | rw [ints_at0 (by omega)] | rw [ints_at' (by omega) (by omega)] | refine G1 ?_ | fail) <;> conv => whnf)
            refine ⟨(x + 1, D), ⟨hJ.next (by omega), hlt⟩, by dsimp only; omega, [some 0], rfl, rfl, And.intro (And.intro rfl rfl) trivial, ?_⟩
            exact ⟨.inl rfl, .inl rfl, rfl, .inl rfl, .inl rfl, trivial⟩
        · refine ⟨(x + 1, C), ⟨hI.skip hlt (.inr (fun h => by have := hbx.1 h; simp_all)), hlt⟩, by dsimp only; omega, [some 0], rfl, rfl, And.intro (And.intro rfl rfl) trivial, ?_⟩
          exact ⟨.inl rfl, .inl rfl, rfl, .inl rfl, .inl rfl, trivial⟩
      · have hfin := (hI.fin (by omega) hBm).uniq (isComps_L _ _ _)
        conv => whnf
        repeat' ((first | contradiction | (refine And.intro (fun hb => ?_) (fun hb => ?_) <;> first | contradiction | ((try simp only [SB, reduceCtorEq] at hb); try (exfalso; first | contradiction | omega))) | refine G2 ?_ | rw [ints_at (by omega)] | rw [ints_at0 (by omega)] | rw [ints_at' (by omega) (by omega)] | refine G1 ?_ | fail) <;> conv => whnf)
        refine ⟨.inl rfl, ?_⟩
        conv => whnf
        rw [← hfin]
        exact ⟨[some 0], ⟨rfl, And.intro (And.intro rfl rfl) trivial⟩, rfl, rfl, by simp [AObj.nov, ints_nov]⟩
def c_impl_graph_finished : ICode := (.seq (.reg [Ol 2 .mv [.c .snil]]) (.seq (.reg [Ol 3 .mv [.c .snil]]) (.seq (.reg [O1 9 .mv 0, O1 10 .nck 9, O1 11 (.fadr 0) 10, O1 12 .ld1 11, O1 13 .len 12, O2 14 (.mks 1 1 [(.bool false)]) 13 13, O1 4 .mv 14]) (.seq (.seq (.reg [O1 15 .mv 0, O1 16 .nck 15, O1 17 (.fadr 0) 16, O1 18 .ld1 17, O1 19 .len 18, Ol 20 .mv [ci 0]]) (.block 0 (.loop (.seq (.reg [O2 21 (.bin .lss) 20 19]) (.seq (.cond (.t 21) .skip (.exit 0)) (.seq (.block 1 (.seq (.reg [O1 22 .mv 20, O1 5 .mv 22]) (.seq (.seq (.reg [O1 23 .mv 4, O1 24 .mv 5, O2 25 (.iadr 1) 23 24, O1 26 .ld1 25]) (.cond (.t 26) (.exit 1) .skip)) (.seq (.reg [O1 27 .mv 4, O1 28 .mv 5, O2 29 (.iadr 1) 27 28, Sl (.st 1) [.t 29, cb true]]) (.seq (.reg [O1 30 .mv 5, O1 31 (.bld [(.int .i64 0), (.int .i64 0)] [(0, 1)]) 30, O1 32 (.bsl 2) 31, O1 6 .mv 32]) (.block 2 (.loop (.seq (.seq (.reg [O1 33 .mv 6, O1 34 .len 33, Ol 35 (.bin .gtr) [.t 34, ci 0]]) (.cond (.t 35) .skip (.exit 2))) (.block 3 (.seq (.reg [O1 36 .mv 6, O1 37 .mv 6, O1 38 .len 37, Ol 39 (.bin .sub) [.t 38, ci 1], O2 40 (.iadr 2) 36 39, O1 7 .mv 40]) (.seq (.seq (.drw [O1 41 .mv 7, O1 42 .nck 41, O1 43 (.fadr 1) 42, O1 44 .ld1 43, O1 45 .mv 0, O1 46 .nck 45, O1 47 (.fadr 0) 46, O1 48 .ld1 47, O1 49 .mv 7, O1 50 .nck 49, O1 51 (.fadr 0) 50, O1 52 .ld1 51, O2 53 (.iadr 1) 48 52, O1 54 .ld1 53, O1 55 .len 54, O2 56 (.bin .eql) 44 55] (unB [0, 1, 3, 7, 0, 16, 48, 112, 0, 256, 768, 1792, 4080, 8176, 16368, 32767] 0) true true) (.cond (.t 56) (.seq (.reg [O1 57 .mv 3, O1 58 .mv 7, O1 59 .nck 58, O1 60 (.fadr 0) 59, O1 61 .ld1 60, O1 62 (.bslv 1) 61, O2 63 (.app 1 8) 57 62, O1 3 .mv 63]) (.seq (.reg [O1 64 .mv 6, O1 65 .mv 6, O1 66 .len 65, Ol 67 (.bin .sub) [.t 66, ci 1], O2 68 (.slc 2 false true) 64 67, O1 6 .mv 68]) (.exit 3))) .skip)) (.seq (.drw [O1 69 .mv 0, O1 70 .nck 69, O1 71 (.fadr 0) 70, O1 72 .ld1 71, O1 73 .mv 7, O1 74 .nck 73, O1 75 (.fadr 0) 74, O1 76 .ld1 75, O2 77 (.iadr 1) 72 76, O1 78 .ld1 77, O1 79 .mv 7, O1 80 .nck 79, O1 81 (.fadr 1) 80, O1 82 .ld1 81, O2 83 (.iadr 2) 78 82, O1 84 (.fadr 0) 83, O1 85 .ld1 84, O1 8 .mv 85] (unB [0, 1, 3, 7, 0, 16, 48, 112, 255, 511, 0, 1024, 3072, 7168, 16383, 32767, 65535, 131071] 0) true true) (.seq (.reg [O1 86 .mv 7, O1 87 .nck 86, O1 88 (.fadr 1) 87, O1 89 .ld1 88, Ol 90 (.bin .add) [.t 89, ci 1], O1 91 .nck 86, O1 92 (.fadr 1) 91, S2 (.st 1) 92 90]) (.seq (.reg [O1 93 .mv 4, O1 94 .mv 8, O2 95 (.iadr 1) 93 94, O1 96 .ld1 95, O1 97 .not 96]) (.cond (.t 97) (.seq (.reg [O1 98 .mv 4, O1 99 .mv 8, O2 100 (.iadr 1) 98 99, Sl (.st 1) [.t 100, cb true]]) (.reg [O1 101 .mv 6, O1 102 .mv 8, O1 103 (.bld [(.int .i64 0), (.int .i64 0)] [(0, 1)]) 102, O1 104 (.bslv 2) 103, O2 105 (.app 2 16) 101 104, O1 6 .mv 105])) .skip))))))))))))))) (.reg [Ol 106 (.bin .add) [.t 20, ci 1], O1 20 .mv 106]))))))) (.seq (.reg [O1 107 .mv 3, O1 2 .mv 107]) .ret)))))
theorem b_impl_graph_finished : Body Try.prog 176 108 c_impl_graph_finished [(.t 2)] := body_mk Try.func176 (by kernel_rfl) (by decide)
def nb (G : GraphD) (p : Nat) : List Nat := (G.getD p []).map (·.1)
theorem nb_adj {G : GraphD} {p r : Nat} : Nb (nb G) p r ↔ Adj G p r := by
  simp [Nb, nb, Adj]
theorem nb_eq (G : GraphD) : Nb (nb G) = Adj G := by
  funext p r; exact propext nb_adj
theorem nb_len (G : GraphD) (p : Nat) : (nb G p).length = (G.getD p []).length := by simp [nb]
theorem nb_at {G : GraphD} {p k : Nat} (h : k < (G.getD p []).length) : (nb G p).getD k 0 = ((G.getD p []).getD k default).1 := by
  have h2 : k < (nb G p).length := by rw [nb_len]; exact h
  rw [List.getD_eq_getElem?_getD, List.getD_eq_getElem?_getD (l := G.getD p []), List.getElem?_eq_getElem h, List.getElem?_eq_getElem h2]
  simp [nb]
def bools (l : List Bool) : List (List AV) := l.map fun b => [.bool b]
@[simp] theorem length_bools (l : List Bool) : (bools l).length = l.length := by simp [bools]
theorem bools_at0 {l : List Bool} {i : Nat} (h : i < l.length) : (bools l)[0 + ((i : Nat) : Int).toNat]? = some [.bool (l.getD i false)] := by
  rw [Nat.zero_add]
  simp [bools, List.getElem?_map, List.getElem?_eq_getElem h, List.getD_eq_getElem?_getD]
theorem bools_set {l : List Bool} {i : Nat} {v : Bool} : (bools l).set (0 + ((i : Nat) : Int).toNat) [.bool v] = bools (l.set i v) := by
  simp [bools, List.map_set]
def placeRow (p : Nat × Nat) : List AV := [.int .i64 ((p.1 : Nat) : Int), .int .i64 ((p.2 : Nat) : Int)]
def placeRows (l : List (Nat × Nat)) : List (List AV) := l.map placeRow
@[simp] theorem length_placeRows (l : List (Nat × Nat)) : (placeRows l).length = l.length := by simp [placeRows]
theorem top_ix {α : Type} {x : α} {l : List α} : 0 + ((((x :: l).length : Nat) : Int) - 1).toNat = l.length := by simp
theorem top_at {x k : Nat} {l J : List (Nat × Nat)} : (placeRows (((x, k) :: l).reverse ++ J))[0 + (((((x, k) :: l).length : Nat) : Int) - 1).toNat]? = some [.int .i64 ((x : Nat) : Int), .int .i64 ((k : Nat) : Int)] := by
  rw [top_ix]
  simp [placeRows, placeRow]
theorem top_set {x : Nat × Nat} {l J : List (Nat × Nat)} {y : Nat × Nat} : (placeRows ((x :: l).reverse ++ J)).set (0 + ((((x :: l).length : Nat) : Int) - 1).toNat) (placeRow y) = placeRows ((y :: l).reverse ++ J) := by
  rw [top_ix]
  simp [placeRows]
theorem top_set1 {x k : Nat} {l J : List (Nat × Nat)} : (placeRows (((x, k) :: l).reverse ++ J)).set (0 + (((((x, k) :: l).length : Nat) : Int) - 1).toNat) [.int .i64 ((x : Nat) : Int), .int .i64 (((k : Nat) : Int) + 1)] = placeRows (((x, k + 1) :: l).reverse ++ J) :=
  top_set (y := (x, k + 1))
theorem cut_top {α : Type} {x : α} {l : List α} {m : Nat} : AV.ref m (0 + (0 : Int).toNat) (((((x :: l).length : Nat) : Int) - 1) - 0).toNat = AV.ref m 0 l.length := by simp
theorem top_app {x y : Nat × Nat} {l J : List (Nat × Nat)} : List.take (x :: l).length (placeRows ((x :: l).reverse ++ J)) ++ [placeRow y] = placeRows ((y :: x :: l).reverse ++ []) := by
  have e : (x :: l).length = (placeRows (x :: l).reverse).length := by simp
  have e2 : placeRows ((x :: l).reverse ++ J) = placeRows (x :: l).reverse ++ placeRows J := by simp [placeRows]
  rw [e, e2, List.take_left]
  simp [placeRows]
def GFin : GFun := fun xs objs Q => ∃ (G : GraphD), xs = [.rptr [.val (gRows G)] 0] ∧ objs = [] ∧ GOk G ∧ G.length ≤ 100000 ∧ steps G ≤ 1000000000 ∧ ∀ ord, Order (nb G) G.length ord → Q (.ref 0 0 ord.length) [some (.arr 1 (ints (natsI ord)))]
theorem GFin_mk {G : GraphD} {Q : AV → List (Option AObj) → Prop} (h : GOk G) (h1 : G.length ≤ 100000) (h2 : steps G ≤ 1000000000) (hq : ∀ ord, Order (nb G) G.length ord → Q (.ref 0 0 ord.length) [some (.arr 1 (ints (natsI ord)))]) :
    GFin [.rptr [.val (gRows G)] 0] [] Q := ⟨G, rfl, rfl, h, h1, h2, hq⟩
set_option maxHeartbeats 8000000 in
theorem s_impl_finished : GenSound Try.prog 176 0 GFin := by
  have hR : Rely Try.prog (ctxOf []) := rely_nil mixed
  refine gen_of_aw b_impl_graph_finished ?_
  rintro xs objs Q - ⟨G, rfl, rfl, hG, hn, hst, hq⟩ -
  have hle := length_gRows G
  have hN : ∀ p, p < G.length → ∀ r ∈ nb G p, r < G.length := fun p _ r hr => (adj_lt hG (nb_adj.1 hr)).2
  refine ⟨by simp, vc2_sound hR _ _ _ _ _ ?_⟩
  conv => whnf
  repeat' ((first | contradiction | (refine And.intro (fun hb => ?_) (fun hb => ?_) <;> first | contradiction | ((try simp only [SB, reduceCtorEq] at hb); try (exfalso; first | contradiction | omega))) | refine G2 ?_ | rw [ints_at (by omega)] | rw [ints_at0 (by omega)] | rw [ints_at' (by omega) (by omega)] | refine G1 ?_ | rw [hle] | fail) <;> conv => whnf)
  refine Lp.intro (α := List Nat × List Bool × Nat) (fun a => Dfs (nb G) G.length a.1 a.2.1 [] ∧ a.2.2 ≤ G.length ∧ ∀ j, j < a.2.2 → a.2.1.getD j false = true) (fun a => G.length - a.2.2)
    (fun a => [(0, .rptr [.val (gRows G)] 0), (3, .ref 1 0 a.1.length), (4, .ref 0 0 G.length), (18, .val (gRows G)), (19, .int .i64 G.length), (20, .int .i64 a.2.2)]) (fun a => [some (.arr 1 (bools a.2.1)), some (.arr 1 (ints (natsI a.1)))]) ?_ ?_
  · refine ⟨([], List.replicate G.length false, 0), ⟨dfs_start _ _, Nat.zero_le _, fun j hj => absurd hj (Nat.not_lt_zero _)⟩, [some 0, none], rfl, rfl, And.intro (And.intro rfl ?_) (And.intro rfl trivial), ?_⟩
    · simp [bools]
    · exact ⟨.inl rfl, ⟨rfl, rfl, rfl⟩, rfl, .inl rfl, .inl rfl, .inl rfl, trivial⟩
  rintro ⟨ord, seen, i⟩ ⟨hD, hi, hall⟩
  dsimp only at hD hi hall ⊢
  have hsl := hD.len
  have hbl := length_bools seen
  refine vc2_sound hR _ _ _ _ _ ?_
  by_cases hlt : i < G.length
  · conv => whnf
    repeat' ((first | contradiction | (refine And.intro (fun hb => ?_) (fun hb => ?_) <;> first | contradiction | ((try simp only [SB, reduceCtorEq] at hb); try (exfalso; first | contradiction | omega))) | refine G2 ?_ | rw [ints_at (by omega)] | rw [ints_at0 (by omega)] | rw [ints_at' (by omega) (by omega)] | refine G1 ?_ | rw [bools_at0 (by omega)] | fail) <;> conv => whnf)
    · refine ⟨(ord, seen, i + 1), ⟨hD, hlt, fun j hj => ?_⟩, by dsimp only; omega, [some 0, some 1], rfl, rfl, And.intro (And.intro rfl rfl) (And.intro (And.intro rfl rfl) trivial), ?_⟩
      · by_cases hji : j = i
        · subst hji; exact hb
        · exact hall j (by dsimp only at hj; omega)
      · exact ⟨.inl rfl, rfl, rfl, .inl rfl, .inl rfl, .inl rfl, trivial⟩
    have hpush := hD.push hlt hb (by simp)
    have hset : ∀ j, (seen.set i true).getD j false = true ↔ i = j ∨ seen.getD j false = true := fun j => by
      rw [getD_setB]
      by_cases hij : i = j
      · rw [if_pos ⟨hij, by omega⟩]; simp [hij]
      · rw [if_neg (fun hh => hij hh.1)]; simp [hij]
    refine Lp.intro (α := List Nat × List Bool × List (Nat × Nat) × List (Nat × Nat)) (fun a => Dfs (nb G) G.length a.1 a.2.1 a.2.2.1 ∧ ∀ j, j < i + 1 → a.2.1.getD j false = true) (fun a => us (nb G) a.2.1 0 + ds (nb G) a.2.2.1)
      (fun a => [(0, .rptr [.val (gRows G)] 0), (3, .ref 1 0 a.1.length), (4, .ref 0 0 G.length), (6, .ref 2 0 a.2.2.1.length), (18, .val (gRows G)), (19, .int .i64 G.length), (20, .int .i64 i)]) (fun a => [some (.arr 1 (bools a.2.1)), some (.arr 1 (ints (natsI a.1))), some (.arr 2 (placeRows (a.2.2.1.reverse ++ a.2.2.2)))]) ?_ ?_
    · refine ⟨(ord, seen.set i true, [(i, 0)], []), ⟨hpush, fun j hj => (hset j).2 ?_⟩, [some 0, some 1, some 2], rfl, rfl, And.intro (And.intro rfl bools_set) (And.intro (And.intro rfl rfl) (And.intro (And.intro rfl rfl) trivial)), ?_⟩
      · by_cases hji : i = j
        · exact .inl hji
        · exact .inr (hall j (by omega))
      · exact ⟨.inl rfl, rfl, rfl, rfl, .inl rfl, .inl rfl, .inl rfl, trivial⟩
    clear hpush hset hb hD hall hsl hbl ord seen
    rintro ⟨ord, seen, st, J⟩ ⟨hD, hall⟩
    dsimp only at hD hall ⊢
    have hsl := hD.len
    have hbl := length_bools seen
    have hlen := hD.length_le
    have hol := (length_ints (natsI ord)).trans (length_natsI ord)
    refine vc2_sound hR _ _ _ _ _ ?_
    match st, hD, hlen with
    | [], hD, hlen =>
      conv => whnf
      repeat' ((first | contradiction | (refine And.intro (fun hb => ?_) (fun hb => ?_) <;> first | contradiction | ((try simp only [SB, reduceCtorEq] at hb); try (exfalso; first | contradiction | omega))) | refine G2 ?_ | rw [ints_at (by omega)] | rw [ints_at0 (by omega)] | rw [ints_at' (by omega) (by omega)] | refine G1 ?_ | fail) <;> conv => whnf)
      refine ⟨(ord, seen, i + 1), ⟨hD, hlt, hall⟩, by dsimp only; omega, [some 0, some 1], rfl, rfl, And.intro (And.intro rfl rfl) (And.intro (And.intro rfl rfl) trivial), ?_⟩
      exact ⟨.inl rfl, rfl, rfl, .inl rfl, .inl rfl, .inl rfl, trivial⟩
    | (x, k) :: rest, hD, hlen =>
      have hxn : x < G.length := hD.lt x (by simp)
      have hk := (hD.gone (x, k) (by simp)).1
      have hnl := nb_len G x
      rw [nb_len] at hk
      dsimp only at hk
      have hLb := steps_le hxn
      have hrl := length_stepRows (G.getD x [])
      have hpl : (placeRows (((x, k) :: rest).reverse ++ J)).length = rest.length + 1 + J.length := by simp; omega
      have hcl : ((x, k) :: rest).length = rest.length + 1 := rfl
      by_cases hkd : k = (G.getD x []).length
      · conv => whnf
        repeat' ((first | contradiction | (refine And.intro (fun hb => ?_) (fun hb => ?_) <;> first | contradiction | ((try simp only [SB, reduceCtorEq] at hb); try (exfalso; first | contradiction | omega))) | refine G2 ?_ | rw [ints_at (by omega)] | rw [ints_at0 (by omega)] | rw [ints_at' (by omega) (by omega)] | refine G1 ?_ | rw [top_at] | rw [gRows_at (by omega)] | fail) <;> conv => whnf)
        · refine ⟨(ord ++ [x], seen, rest, (x, k) :: J), ⟨hD.pop hN (by omega), hall⟩, by simp only [ds]; omega, [some 0, some 3, some 2], rfl, rfl, And.intro (And.intro rfl rfl) (And.intro (And.intro rfl (natsI_app rfl)) (And.intro (And.intro rfl ?_) trivial)), ?_⟩
          · simp
          · exact ⟨.inl rfl, congrArg (AV.ref 3 0) (by simp), rfl, cut_top, .inl rfl, .inl rfl, .inl rfl, trivial⟩
      · have hto : ((G.getD x []).getD k default).1 < G.length := hG x _ (getD_mem' (by omega))
        have hna := nb_at (G := G) (p := x) (k := k) (by omega)
        conv => whnf
        repeat' ((first | contradiction | (refine And.intro (fun hb => ?_) (fun hb => ?_) <;> first | contradiction | ((try simp only [SB, reduceCtorEq] at hb); try (exfalso; first | contradiction | omega))) | refine G2 ?_ | rw [ints_at (by omega)] | rw [ints_at0 (by omega)] | rw [ints_at' (by omega) (by omega)] | refine G1 ?_ | rw [top_at] | rw [gRows_at (by omega)] | rw [step_at (by omega)] | rw [bools_at0 (by omega)] | fail) <;> conv => whnf)
        · refine ⟨(ord, seen, (x, k + 1) :: rest, J), ⟨hD.pass (by omega) (by rw [hna]; exact hb), hall⟩, by simp only [ds]; omega, [some 0, some 1, some 2], rfl, rfl, And.intro (And.intro rfl rfl) (And.intro (And.intro rfl rfl) (And.intro (And.intro rfl top_set1) trivial)), ?_⟩
          exact ⟨.inl rfl, rfl, rfl, rfl, .inl rfl, .inl rfl, .inl rfl, trivial⟩
        · have hus := us_set (nb G) seen 0 _ (by omega) hb
          rw [Nat.zero_add, nb_len] at hus
          refine ⟨(ord, seen.set ((G.getD x []).getD k default).1 true, (((G.getD x []).getD k default).1, 0) :: (x, k + 1) :: rest, []), ⟨hD.down (by omega) hna hto hb, fun j hj => ?_⟩, ?_, [some 0, some 1, some 3], rfl, rfl, And.intro (And.intro rfl bools_set) (And.intro (And.intro rfl rfl) (And.intro (And.intro rfl ?_) trivial)), ?_⟩
          · rw [getD_setB]
            split
            · rfl
            · exact hall j hj
          · simp only [ds, nb_len]; omega
          · rw [top_set1]
            exact top_app (x := (x, k + 1)) (y := (((G.getD x []).getD k default).1, 0))
          · exact ⟨.inl rfl, rfl, rfl, congrArg (AV.ref 3 0) (by simp), .inl rfl, .inl rfl, .inl rfl, trivial⟩
  · conv => whnf
    repeat' ((first | contradiction | (refine And.intro (fun hb => ?_) (fun hb => ?_) <;> first | contradiction | ((try simp only [SB, reduceCtorEq] at hb); try (exfalso; first | contradiction | omega))) | refine G2 ?_ | rw [ints_at (by omega)] | rw [ints_at0 (by omega)] | rw [ints_at' (by omega) (by omega)] | refine G1 ?_ | fail) <;> conv => whnf)
    refine ⟨.inl rfl, ?_⟩
    conv => whnf
    refine ⟨[some 1], .ref 0 0 ord.length, [some (.arr 1 (ints (natsI ord)))], ⟨rfl, And.intro (And.intro rfl rfl) trivial⟩, rfl, rfl, hq ord (hD.order fun p hp => hall p (by omega))⟩
def c_slices_Reverse_int_int : ICode := (.seq (.reg [O1 4 .mv 0, O1 5 .len 4, Ol 6 (.bin .sub) [.t 5, ci 1], Ol 2 .mv [ci 0], O1 3 .mv 6]) (.block 0 (.loop (.seq (.seq (.reg [O1 7 .mv 2, O1 8 .mv 3, O2 9 (.bin .lss) 7 8]) (.cond (.t 9) .skip (.exit 0))) (.seq (.block 1 (.drw [O1 14 .mv 0, O1 15 .mv 2, O1 16 .mv 0, O1 17 .mv 3, O1 18 .mv 0, O1 19 .mv 3, O2 20 (.iadr 1) 18 19, O1 21 .ld1 20, O1 22 .mv 0, O1 23 .mv 2, O2 24 (.iadr 1) 22 23, O1 25 .ld1 24, O2 26 (.iadr 1) 14 15, S2 (.st 1) 26 21, O2 27 (.iadr 1) 16 17, S2 (.st 1) 27 25] (unB [0, 0, 0, 0, 0, 0, 48, 112, 0, 0, 768, 1792, 4083, 8179, 16383, 32767] 0) true true)) (.reg [O1 10 .mv 2, Ol 11 (.bin .add) [.t 10, ci 1], O1 12 .mv 3, Ol 13 (.bin .sub) [.t 12, ci 1], O1 2 .mv 11, O1 3 .mv 13]))))))
theorem b_slices_Reverse_int_int : Body Try.prog 178 28 c_slices_Reverse_int_int [] := body_mk Try.func178 (by kernel_rfl) (by decide)
def c_impl_graph_rings : ICode := (.seq (.reg [Ol 2 .mv [.c .snil]]) (.seq (.reg [O1 13 .mv 0, O1 14 (.call 176) 13, O1 3 .mv 14]) (.seq (.reg [O1 15 .mv 0, O1 16 (.call 177) 15, O1 4 .mv 16]) (.seq (.reg [O1 17 .mv 0, O1 18 .nck 17, O1 19 (.fadr 0) 18, O1 20 .ld1 19, O1 21 .len 20, O2 22 (.mks 1 8 [(.int .i64 0)]) 21 21, O1 5 .mv 22]) (.seq (.seq (.reg [O1 23 .mv 5, O1 24 .len 23, Ol 25 .mv [ci 0]]) (.block 0 (.loop (.seq (.reg [O2 26 (.bin .lss) 25 24]) (.seq (.cond (.t 26) .skip (.exit 0)) (.seq (.block 1 (.seq (.reg [O1 27 .mv 25, O1 6 .mv 27]) (.reg [O1 28 .mv 5, O1 29 .mv 6, O2 30 (.iadr 1) 28 29, Sl (.st 1) [.t 30, ci (-1)]]))) (.reg [Ol 31 (.bin .add) [.t 25, ci 1], O1 25 .mv 31]))))))) (.seq (.reg [O1 32 .mv 3, O1 33 (.call 178) 32]) (.seq (.seq (.reg [O1 34 .mv 3, O1 35 .len 34, Ol 36 .mv [ci 0]]) (.block 2 (.loop (.seq (.reg [O2 37 (.bin .lss) 36 35]) (.seq (.cond (.t 37) .skip (.exit 2)) (.seq (.block 3 (.seq (.reg [O1 38 .mv 36, O2 39 (.iadr 1) 34 36, O1 40 .ld1 39, O1 7 .mv 38, O1 8 .mv 40]) (.seq (.seq (.reg [O1 41 .mv 5, O1 42 .mv 8, O2 43 (.iadr 1) 41 42, O1 44 .ld1 43, Ol 45 (.bin .geq) [.t 44, ci 0]]) (.cond (.t 45) (.exit 3) .skip)) (.seq (.reg [O1 46 .mv 5, O1 47 .mv 8, O1 48 .mv 7, O2 49 (.iadr 1) 46 47, S2 (.st 1) 49 48]) (.seq (.reg [O1 50 .mv 8, O1 51 (.bsl 1) 50, O1 9 .mv 51]) (.block 4 (.loop (.seq (.seq (.reg [O1 52 .mv 9, O1 53 .len 52, Ol 54 (.bin .gtr) [.t 53, ci 0]]) (.cond (.t 54) .skip (.exit 4))) (.block 5 (.seq (.reg [O1 55 .mv 9, O1 56 .mv 9, O1 57 .len 56, Ol 58 (.bin .sub) [.t 57, ci 1], O2 59 (.iadr 1) 55 58, O1 60 .ld1 59, O1 10 .mv 60]) (.seq (.reg [O1 61 .mv 9, O1 62 .mv 9, O1 63 .len 62, Ol 64 (.bin .sub) [.t 63, ci 1], O2 65 (.slc 1 false true) 61 64, O1 9 .mv 65]) (.seq (.reg [O1 66 .mv 4, O1 67 .nck 66, O1 68 (.fadr 0) 67, O1 69 .ld1 68, O1 70 .mv 10, O2 71 (.iadr 1) 69 70, O1 72 .ld1 71, O1 73 .len 72, Ol 74 .mv [ci 0]]) (.block 6 (.loop (.seq (.reg [O2 75 (.bin .lss) 74 73]) (.seq (.cond (.t 75) .skip (.exit 6)) (.seq (.block 7 (.seq (.reg [O2 76 (.iadr 2) 72 74, O1 77 (.ldn 2) 76, O0 12 (.alc [(.int .i64 0), (.int .i64 0)]), S2 (.st 2) 12 77]) (.seq (.reg [O1 78 .mv 5, O1 79 (.fadr 0) 12, O1 80 .ld1 79, O2 81 (.iadr 1) 78 80, O1 82 .ld1 81, Ol 83 (.bin .lss) [.t 82, ci 0]]) (.cond (.t 83) (.seq (.reg [O1 84 .mv 5, O1 85 (.fadr 0) 12, O1 86 .ld1 85, O1 87 .mv 7, O2 88 (.iadr 1) 84 86, S2 (.st 1) 88 87]) (.reg [O1 89 .mv 9, O1 90 (.fadr 0) 12, O1 91 .ld1 90, O1 92 (.bslv 1) 91, O2 93 (.app 1 8) 89 92, O1 9 .mv 93])) .skip)))) (.reg [Ol 94 (.bin .add) [.t 74, ci 1], O1 74 .mv 94])))))))))))))))))) (.reg [Ol 95 (.bin .add) [.t 36, ci 1], O1 36 .mv 95]))))))) (.seq (.reg [O1 96 .mv 5, O1 2 .mv 96]) .ret))))))))
theorem b_impl_graph_rings : Body Try.prog 104 97 c_impl_graph_rings [(.t 2)] := body_mk Try.func104 (by kernel_rfl) (by decide)
def GReverse : GFun := fun xs objs Q => ∃ l n, xs = [.ref 0 0 n] ∧ objs = [.arr 1 (ints l)] ∧ l.length = n ∧ n ≤ 1000000 ∧ Q (.tup []) [some (.arr 1 (ints l.reverse))]
theorem GReverse_mk {l : List Int} {n : Nat} {Q : AV → List (Option AObj) → Prop} (h : l.length = n) (h1 : n ≤ 1000000) (hq : Q (.tup []) [some (.arr 1 (ints l.reverse))]) : GReverse [.ref 0 0 n] [.arr 1 (ints l)] Q := ⟨l, n, rfl, rfl, h, h1, hq⟩
theorem ints_setI {d : List Int} {i : Int} {v : Int} : (ints d).set (0 + i.toNat) [.int .i64 v] = ints (d.set i.toNat v) := by
  rw [Nat.zero_add]
  simp [ints, List.map_set]
theorem ints_atI {xs : List Int} {i : Int} (h0 : 0 ≤ i) (h : i < xs.length) : (ints xs)[0 + i.toNat]? = some [.int .i64 (xs.getD i.toNat 0)] := by
  rw [Nat.zero_add]
  exact ints_at' h0 h
set_option maxHeartbeats 4000000 in
theorem s_slices_Reverse : GenSound Try.prog 178 1 GReverse := by
  have hR : Rely Try.prog (ctxOf []) := rely_nil mixed
  refine gen_of_aw b_slices_Reverse_int_int ?_
  rintro xs objs Q - ⟨l, n, rfl, rfl, rfl, hn, hq⟩ -
  refine ⟨by simp, vc2_sound hR _ _ _ _ _ ?_⟩
  conv => whnf
  repeat' ((first | contradiction | (refine And.intro (fun hb => ?_) (fun hb => ?_) <;> first | contradiction | ((try simp only [SB, reduceCtorEq] at hb); try (exfalso; first | contradiction | omega))) | refine G2 ?_ | rw [ints_at (by omega)] | rw [ints_at0 (by omega)] | rw [ints_at' (by omega) (by omega)] | refine G1 ?_ | fail) <;> conv => whnf)
  refine Lp.intro (α := Nat) (fun i => 2 * i ≤ l.length + 1) (fun i => l.length + 2 - i) (fun i => [(0, .ref 0 0 l.length), (2, .int .i64 i), (3, .int .i64 ((l.length : Int) - 1 - i))]) (fun i => [some (.arr 1 (ints (revI l i)))]) ?_ ?_
  · refine ⟨0, by omega, [some 0], rfl, rfl, And.intro (And.intro rfl ?_) trivial, ?_⟩
    · rw [revI_zero]
    · repeat' (first
        | exact trivial
        | refine ⟨?_, ?_⟩
        | fail)
      all_goals first
        | with_reducible rfl
        | (conv => whnf
           try left
           conv => lhs; whnf
           first
             | rfl
             | exact congrArg (AV.int .i64) (by omega)
             | skip)
  · intro i hi
    have hrl := length_revI (l := l) (i := i)
    have hil := length_ints (revI l i)
    refine vc2_sound hR _ _ _ _ _ ?_
    by_cases hlt : 2 * i + 1 < l.length
    · conv => whnf
      repeat' ((first | contradiction | (refine And.intro (fun hb => ?_) (fun hb => ?_) <;> first | contradiction | ((try simp only [SB, reduceCtorEq] at hb); try (exfalso; first | contradiction | omega))) | refine G2 ?_ | rw [ints_at (by omega)] | rw [ints_at0 (by omega)] | rw [ints_at' (by omega) (by omega)] | refine G1 ?_ | (rw [ints_atI (by omega) (by (try simp only [List.length_set]); omega)]) | rw [ints_setI] | fail) <;> conv => whnf)
      refine ⟨i + 1, by omega, by omega, [some 0], rfl, rfl, And.intro (And.intro rfl ?_) trivial, ?_⟩
      · rw [← revI_step hlt rfl]
        have e : ((l.length : Int) - 1 - (i : Int)).toNat = l.length - 1 - i := by omega
        rw [e]
        rfl
      · exact ⟨rfl, .inl rfl, .inl (congrArg (AV.int .i64) (by omega)), trivial⟩
    · conv => whnf
      repeat' ((first | contradiction | (refine And.intro (fun hb => ?_) (fun hb => ?_) <;> first | contradiction | ((try simp only [SB, reduceCtorEq] at hb); try (exfalso; first | contradiction | omega))) | refine G2 ?_ | rw [ints_at (by omega)] | rw [ints_at0 (by omega)] | rw [ints_at' (by omega) (by omega)] | refine G1 ?_ | fail) <;> conv => whnf)
      refine ⟨.inr rfl, ?_⟩
      conv => whnf
      refine ⟨[some 0], .tup [], [some (.arr 1 (ints l.reverse))], ⟨rfl, And.intro (And.intro rfl ?_) trivial⟩, trivial, rfl, hq⟩
      rw [revI_end (by omega)]
/-! ### rings -/
def GRings : GFun := fun xs objs Q => ∃ (G : GraphD), xs = [.rptr [.val (gRows G)] 0] ∧ objs = [] ∧ GOk G ∧ G.length ≤ 100000 ∧ steps G ≤ 1000000000 ∧ ∀ out, IsRings (Adj G) G.length out → Q (.ref 0 0 G.length) [some (.arr 1 (ints out))]
theorem GRings_mk {G : GraphD} {Q : AV → List (Option AObj) → Prop} (h : GOk G) (h1 : G.length ≤ 100000) (h2 : steps G ≤ 1000000000) (hq : ∀ out, IsRings (Adj G) G.length out → Q (.ref 0 0 G.length) [some (.arr 1 (ints out))]) :
    GRings [.rptr [.val (gRows G)] 0] [] Q := ⟨G, rfl, rfl, h, h1, h2, hq⟩
theorem len_mkG (l : List Trip) (n : Nat) : ∀ k, k ≤ n → (allWays (mkG n l) k).length = (l.filter fun e => decide (e.1 < k)).length := by
  intro k
  induction k with
  | zero =>
    intro _
    have e : (l.filter fun e => decide (e.1 < 0)) = [] := List.filter_eq_nil_iff.2 (by simp)
    rw [e]; simp [allWays]
  | succ k ih =>
    intro hk
    rw [allWays_succ, List.length_append, ih (by omega), ways_len, mkG_at (by omega), List.length_map, ← List.countP_eq_length_filter, ← List.countP_eq_length_filter, ← List.countP_eq_length_filter]
    clear ih hk
    induction l with
    | nil => rfl
    | cons e r ihr =>
      simp only [List.countP_cons]
      by_cases h1 : e.1 < k
      · have h2 : ¬ e.1 = k := by omega
        have h3 : e.1 < k + 1 := by omega
        simp [h1, h2, h3]; omega
      · by_cases h2 : e.1 = k
        · have h3 : e.1 < k + 1 := by omega
          simp [h1, h2]; omega
        · have h3 : ¬ e.1 < k + 1 := by omega
          simp [h1, h2, h3]; omega
theorem steps_mkG {n : Nat} {l : List Trip} : steps (mkG n l) ≤ l.length := by
  unfold steps
  rw [length_mkG, len_mkG l n n (Nat.le_refl _)]
  exact List.length_filter_le _ _
theorem steps_back {G : GraphD} (h : GOk G) : steps (backG G) = steps G := by
  unfold steps
  have e : (backG G).length = G.length := length_mkG _ _
  rw [e]
  unfold backG
  rw [len_mkG _ _ _ (Nat.le_refl _), List.filter_eq_self.2]
  rintro ⟨x, t, m⟩ he
  simpa using h t _ (mem_allWays.1 he).2
theorem last_ix {α : Type} {x : α} {l : List α} : 0 + ((((l ++ [x]).length : Nat) : Int) - 1).toNat = l.length := by simp
theorem last_at {p : Nat} {l J : List Nat} : (ints (natsI ((l ++ [p]) ++ J)))[0 + ((((l ++ [p]).length : Nat) : Int) - 1).toNat]? = some [.int .i64 ((p : Nat) : Int)] := by
  rw [last_ix]
  simp [ints, natsI]
theorem cut_last {α : Type} {x : α} {l : List α} {m : Nat} : AV.ref m (0 + (0 : Int).toNat) (((((l ++ [x]).length : Nat) : Int) - 1) - 0).toNat = AV.ref m 0 l.length := by simp
theorem natsI_app2 {l J : List Nat} {p : Nat} : List.take l.length (ints (natsI (l ++ J))) ++ [[.int .i64 ((p : Nat) : Int)]] = ints (natsI ((l ++ [p]) ++ [])) := by
  have e : ints (natsI (l ++ J)) = ints (natsI l) ++ ints (natsI J) := by simp [ints, natsI]
  rw [e, List.take_append_of_le_length (by simp [ints]), List.take_of_length_le (by simp [ints])]
  simp [ints, natsI]
set_option maxHeartbeats 8000000 in
theorem s_impl_rings : GenSound Try.prog 104 0 GRings := by
  have hR : Rely Try.prog (ctxOf [(176, .gen 0 GFin), (177, .pure RBack), (178, .gen 1 GReverse)]) :=
    rely_cons b_impl_graph_finished.has s_impl_finished (rely_cons b_impl_graph_back.has s_impl_back (rely_cons b_slices_Reverse_int_int.has s_slices_Reverse (rely_nil mixed)))
  refine gen_of_aw b_impl_graph_rings ?_
  rintro xs objs Q - ⟨G, rfl, rfl, hG, hn, hst, hq⟩ -
  have hle := length_gRows G
  have hbk := gok_back hG
  have hN : ∀ p, p < G.length → ∀ r ∈ nb G p, r < G.length := fun p _ r hr => (adj_lt hG (nb_adj.1 hr)).2
  have hbl : (backG G).length = G.length := length_mkG _ _
  have hst2 := steps_back hG
  refine ⟨by simp, vc2_sound hR _ _ _ _ _ ?_⟩
  conv => whnf
  repeat' ((first | contradiction | (refine And.intro (fun hb => ?_) (fun hb => ?_) <;> first | contradiction | ((try simp only [SB, reduceCtorEq] at hb); try (exfalso; first | contradiction | omega))) | refine G2 ?_ | rw [ints_at (by omega)] | rw [ints_at0 (by omega)] | rw [ints_at' (by omega) (by omega)] | refine G1 ?_ | rw [hle] | refine ⟨GFin_mk hG hn hst (fun ord hord => ?_)⟩ | refine ⟨_, _, RBack_eq rfl hG hn hst, ?_⟩ | fail) <;> conv => whnf)
  have hol := hord.length
  refine Lp.intro (α := Nat) (fun i => i ≤ G.length) (fun i => G.length - i) (fun i => [(3, .ref 1 0 ord.length), (4, .rptr [.val (gRows (backG G))] 0), (5, .ref 0 0 G.length), (24, .int .i64 G.length), (25, .int .i64 i)]) (fun i => [some (.arr 1 (ints (List.replicate i (-1) ++ List.replicate (G.length - i) 0))), some (.arr 1 (ints (natsI ord)))]) ?_ ?_
  · refine ⟨0, by omega, [some 3, some 0], rfl, rfl, And.intro (And.intro rfl ?_) (And.intro (And.intro rfl rfl) trivial), ?_⟩
    · simp [ints]
    · exact ⟨rfl, .inr (snap_graph rfl rfl hbl.symm), rfl, .inl rfl, .inl rfl, trivial⟩
  intro i hi
  refine vc2_sound hR _ _ _ _ _ ?_
  by_cases hlt : i < G.length
  · conv => whnf
    repeat' ((first | contradiction | (refine And.intro (fun hb => ?_) (fun hb => ?_) <;> first | contradiction | ((try simp only [SB, reduceCtorEq] at hb); try (exfalso; first | contradiction | omega))) | refine G2 ?_ | rw [ints_at (by omega)] | rw [ints_at0 (by omega)] | rw [ints_at' (by omega) (by omega)] | refine G1 ?_ | rw [neg_at hlt] | fail) <;> conv => whnf)
    refine ⟨i + 1, by omega, by omega, [some 0, some 1], rfl, rfl, And.intro (And.intro rfl (neg_set hlt)) (And.intro (And.intro rfl rfl) trivial), ?_⟩
    repeat' (first
      | exact trivial
      | refine ⟨?_, ?_⟩
      | fail)
    all_goals first
      | with_reducible rfl
      | (conv => whnf
         try left
         conv => lhs; whnf
         first
           | rfl
           | exact congrArg (AV.int .i64) (by omega)
           | skip)
  obtain rfl : i = G.length := by omega
  have hnl := length_natsI ord
  have hrev : (natsI ord).reverse = natsI ord.reverse := by simp [natsI]
  have hrl : ord.reverse.length = ord.length := by simp
  conv => whnf
  repeat' ((first | contradiction | (refine And.intro (fun hb => ?_) (fun hb => ?_) <;> first | contradiction | ((try simp only [SB, reduceCtorEq] at hb); try (exfalso; first | contradiction | omega))) | refine G2 ?_ | rw [ints_at (by omega)] | rw [ints_at0 (by omega)] | rw [ints_at' (by omega) (by omega)] | refine G1 ?_ | refine ⟨GReverse_mk hnl (by omega) ?_⟩ | rw [hrev] | fail) <;> conv => whnf)
  clear hi hlt hb
  refine Lp.intro (α := List Int × Nat) (fun a => Rings (Nb (nb G)) G.length ord.reverse a.2 a.1 ∧ a.2 ≤ ord.length) (fun a => ord.length - a.2)
    (fun a => [(4, .rptr [.val (gRows (backG G))] 0), (5, .ref 0 0 G.length), (34, .ref 1 0 ord.length), (35, .int .i64 ord.length), (36, .int .i64 a.2)]) (fun a => [some (.arr 1 (ints a.1)), some (.arr 1 (ints (natsI ord.reverse)))]) ?_ ?_
  · refine ⟨(List.replicate G.length (-1), 0), ⟨rings_start _ _ _, Nat.zero_le _⟩, [some 0, some 1], rfl, rfl, And.intro (And.intro rfl ?_) (And.intro (And.intro rfl rfl) trivial), ?_⟩
    · simp
    · exact ⟨.inl rfl, rfl, rfl, .inl rfl, .inl rfl, trivial⟩
  rintro ⟨out, k⟩ ⟨hT, hk⟩
  dsimp only at hT hk ⊢
  have hotl := hT.len
  have hil := length_ints out
  refine vc2_sound hR _ _ _ _ _ ?_
  by_cases hlt : k < ord.length
  · have hroot : ord.reverse.getD k 0 < G.length := by
      refine hord.lt _ ?_
      rw [List.getD_eq_getElem?_getD, List.getElem?_eq_getElem (by omega)]
      exact List.mem_reverse.1 (List.getElem_mem _)
    have h0k : ∀ q, q < G.length → out.getD q 0 < (k : Int) := fun p hp => by
      rcases hT.told p hp with h1 | ⟨j, h1, _, h2, _⟩ <;> omega
    generalize hrt : ord.reverse.getD k 0 = root at hroot
    conv => whnf
    repeat' ((first | contradiction | (refine And.intro (fun hb => ?_) (fun hb => ?_) <;> first | contradiction | ((try simp only [SB, reduceCtorEq] at hb); try (exfalso; first | contradiction | omega))) | refine G2 ?_ | rw [ints_at (by omega)] | rw [ints_at0 (by omega)] | rw [ints_at' (by omega) (by omega)] | refine G1 ?_ | rw [natsI_at0 (by omega)] | rw [hrt] | rw [ints_at0 (by omega)] | fail) <;> conv => whnf)
    · rw [hrt] at hb
      refine ⟨(out, k + 1), ⟨hT.skip (fun _ => by rw [hrt]; exact hb), hlt⟩, by dsimp only; omega, [some 0, some 1], rfl, rfl, And.intro (And.intro rfl rfl) (And.intro (And.intro rfl rfl) trivial), ?_⟩
      exact ⟨.inl rfl, rfl, rfl, .inl rfl, .inl rfl, trivial⟩
    rw [hrt] at hb
    have hb0 := hb
    have hS := ring_start (A := Nb (nb G)) (k := k) hotl hroot hb
    have hls := left_set (v := (k : Int)) (by omega : root < out.length) hb (by omega)
    have hlo : left out ≤ out.length := List.countP_le_length
    refine Lp.intro (α := List Int × List Nat × List Nat) (fun a => Ring (Nb (nb G)) G.length k root out a.1 a.2.1 none (fun _ => False) ∧ 2 * left a.1 + a.2.1.length ≤ 2 * G.length) (fun a => 2 * left a.1 + a.2.1.length)
      (fun a => [(4, .rptr [.val (gRows (backG G))] 0), (5, .ref 0 0 G.length), (7, .int .i64 k), (9, .ref 2 0 a.2.1.length), (34, .ref 1 0 ord.length), (35, .int .i64 ord.length), (36, .int .i64 k)]) (fun a => [some (.arr 1 (ints a.1)), some (.arr 1 (ints (natsI ord.reverse))), some (.arr 1 (ints (natsI (a.2.1 ++ a.2.2))))]) ?_ ?_
    · refine ⟨(out.set root k, [root], []), ⟨hS, by simp only [List.length_singleton]; omega⟩, [some 0, some 1, some 2], rfl, rfl, And.intro (And.intro rfl ints_set) (And.intro (And.intro rfl rfl) (And.intro (And.intro rfl rfl) trivial)), ?_⟩
      exact ⟨.inl rfl, rfl, .inl rfl, rfl, rfl, .inl rfl, .inl rfl, trivial⟩
    clear hS hls hlo
    rintro ⟨out', st, J⟩ ⟨hC, hM⟩
    dsimp only at hC hM ⊢
    have hsp : st = [] ∨ ∃ l p, st = l ++ [p] := by
      rcases List.eq_nil_or_concat st with h | ⟨l, p, h⟩
      · exact .inl h
      · exact .inr ⟨l, p, by rw [h, List.concat_eq_append]⟩
    have hotl' := hC.len
    have hil' := length_ints out'
    refine vc2_sound hR _ _ _ _ _ ?_
    rcases hsp with rfl | ⟨l, p, rfl⟩
    · conv => whnf
      repeat' ((first | contradiction | (refine And.intro (fun hb => ?_) (fun hb => ?_) <;> first | contradiction | ((try simp only [SB, reduceCtorEq] at hb); try (exfalso; first | contradiction | omega))) | refine G2 ?_ | rw [ints_at (by omega)] | rw [ints_at0 (by omega)] | rw [ints_at' (by omega) (by omega)] | refine G1 ?_ | fail) <;> conv => whnf)
      refine ⟨(out', k + 1), ⟨hC.fin rfl hN hord hlt hrt.symm hT hb0, hlt⟩, by dsimp only; omega, [some 0, some 1], rfl, rfl, And.intro (And.intro rfl rfl) (And.intro (And.intro rfl rfl) trivial), ?_⟩
      exact ⟨.inl rfl, rfl, rfl, .inl rfl, .inl rfl, trivial⟩
    have hD := hC.take h0k
    have hp := (hC.wait p (by simp)).1
    have hLb := steps_le (G := backG G) (i := p) (by omega)
    have hsl := length_stepRows ((backG G).getD p [])
    have hll : (l ++ [p]).length = l.length + 1 := by simp
    have hjl : (ints (natsI (l ++ [p] ++ J))).length = l.length + 1 + J.length := by rw [length_ints, length_natsI]; simp; omega
    conv => whnf
    repeat' ((first | contradiction | (refine And.intro (fun hb => ?_) (fun hb => ?_) <;> first | contradiction | ((try simp only [SB, reduceCtorEq] at hb); try (exfalso; first | contradiction | omega))) | refine G2 ?_ | rw [ints_at (by omega)] | rw [ints_at0 (by omega)] | rw [ints_at' (by omega) (by omega)] | refine G1 ?_ | rw [last_at] | rw [gRows_at (by omega)] | fail) <;> conv => whnf)
    generalize hL : (backG G).getD p [] = L at hLb hsl
    refine Lp.intro (α := List Int × List Nat × List Nat × Nat) (fun a => Ring (Nb (nb G)) G.length k root out a.1 a.2.1 (some p) (fun r => ∃ j, j < a.2.2.2 ∧ (L.getD j default).1 = r) ∧ a.2.2.2 ≤ L.length ∧ 2 * left a.1 + a.2.1.length ≤ 2 * left out' + l.length) (fun a => L.length - a.2.2.2)
      (fun a => [(4, .rptr [.val (gRows (backG G))] 0), (5, .ref 0 0 G.length), (7, .int .i64 k), (9, .ref 2 0 a.2.1.length), (34, .ref 1 0 ord.length), (35, .int .i64 ord.length), (36, .int .i64 k), (72, .val (stepRows L)), (73, .int .i64 L.length), (74, .int .i64 a.2.2.2)]) (fun a => [some (.arr 1 (ints a.1)), some (.arr 1 (ints (natsI ord.reverse))), some (.arr 1 (ints (natsI (a.2.1 ++ a.2.2.1))))]) ?_ ?_
    · refine ⟨(out', l, p :: J, 0), ⟨hD.see (fun q hq r _ _ hr => by obtain ⟨j, hj, _⟩ := hr; dsimp only at hj; omega), Nat.zero_le _, Nat.le_refl _⟩, [some 0, some 1, some 2], rfl, rfl, And.intro (And.intro rfl rfl) (And.intro (And.intro rfl rfl) (And.intro (And.intro rfl ?_) trivial)), ?_⟩
      · simp
      · subst hL
        exact ⟨.inl rfl, rfl, .inl rfl, cut_last, rfl, .inl rfl, .inl rfl, .inl rfl, .inl (congrArg (fun x : Nat => AV.int .i64 x) hsl), .inl rfl, trivial⟩
    clear hD hC hotl' hil' hjl
    rintro ⟨out2, st2, J2, j⟩ ⟨hE, hj, hm⟩
    dsimp only at hE hj hm ⊢
    have hotl' := hE.len
    have hil' := length_ints out2
    refine vc2_sound hR _ _ _ _ _ ?_
    by_cases hjl : j < L.length
    · have hmem : L.getD j default ∈ (backG G).getD p [] := by rw [hL]; exact getD_mem' hjl
      have hs : (L.getD j default).1 < G.length := by
        have := hbk p _ hmem
        omega
      have hadj : Nb (nb G) (L.getD j default).1 p := nb_adj.2 ((adj_back hG).1 ⟨(L.getD j default).2, hmem⟩)
      have hsee : ∀ {o : List Int}, 0 ≤ o.getD (L.getD j default).1 0 → ∀ q, some p = some q → ∀ r, r < G.length → Nb (nb G) r q → (∃ j', j' < j + 1 ∧ (L.getD j' default).1 = r) → (∃ j', j' < j ∧ (L.getD j' default).1 = r) ∨ 0 ≤ o.getD r 0 := by
        rintro o ho q _ r _ _ ⟨j', hj', rfl⟩
        by_cases hjj : j' = j
        · subst hjj; exact .inr ho
        · exact .inl ⟨j', by omega, rfl⟩
      have hj2 : st2.length ≤ (ints (natsI (st2 ++ J2))).length := by rw [length_ints, length_natsI]; simp
      have hst2l : st2.length ≤ 200000 := by omega
      conv => whnf
      repeat' ((first | contradiction | (refine And.intro (fun hb => ?_) (fun hb => ?_) <;> first | contradiction | ((try simp only [SB, reduceCtorEq] at hb); try (exfalso; first | contradiction | omega))) | refine G2 ?_ | rw [ints_at (by omega)] | rw [ints_at0 (by omega)] | rw [ints_at' (by omega) (by omega)] | refine G1 ?_ | rw [step_at (by omega)] | rw [ints_at0 (by omega)] | fail) <;> conv => whnf)
      · have hpush := hE.push hs hadj hb
        have hls := left_set (v := (k : Int)) (by omega : (L.getD j default).1 < out2.length) hb (by omega)
        refine ⟨(out2.set (L.getD j default).1 k, st2 ++ [(L.getD j default).1], [], j + 1), ⟨hpush.see (hsee (by rw [Pl.getD_set, if_pos ⟨rfl, by omega⟩]; omega)), hjl, by simp only [List.length_append, List.length_singleton]; omega⟩, by dsimp only; omega, [some 0, some 1, some 4], rfl, rfl, And.intro (And.intro rfl ints_set) (And.intro (And.intro rfl rfl) (And.intro (And.intro rfl natsI_app2) trivial)), ?_⟩
        exact ⟨.inl rfl, rfl, .inl rfl, congrArg (AV.ref 4 0) (by simp), rfl, .inl rfl, .inl rfl, .inl rfl, .inl rfl, .inl rfl, trivial⟩
      · refine ⟨(out2, st2, J2, j + 1), ⟨hE.see (hsee (by omega)), hjl, hm⟩, by dsimp only; omega, [some 0, some 1, some 2], rfl, rfl, And.intro (And.intro rfl rfl) (And.intro (And.intro rfl rfl) (And.intro (And.intro rfl rfl) trivial)), ?_⟩
        exact ⟨.inl rfl, rfl, .inl rfl, rfl, rfl, .inl rfl, .inl rfl, .inl rfl, .inl rfl, .inl rfl, trivial⟩
    · conv => whnf
      repeat' ((first | contradiction | (refine And.intro (fun hb => ?_) (fun hb => ?_) <;> first | contradiction | ((try simp only [SB, reduceCtorEq] at hb); try (exfalso; first | contradiction | omega))) | refine G2 ?_ | rw [ints_at (by omega)] | rw [ints_at0 (by omega)] | rw [ints_at' (by omega) (by omega)] | refine G1 ?_ | fail) <;> conv => whnf)
      refine ⟨(out2, st2, J2), ⟨hE.done (fun q hq r hr ha => ?_), by dsimp only; omega⟩, by dsimp only; omega, [some 0, some 1, some 2], rfl, rfl, And.intro (And.intro rfl rfl) (And.intro (And.intro rfl rfl) (And.intro (And.intro rfl rfl) trivial)), ?_⟩
      · cases hq
        obtain ⟨m, hm⟩ := (adj_back hG).2 (nb_adj.1 ha)
        rw [hL] at hm
        obtain ⟨j', hj', he⟩ := List.getElem_of_mem hm
        refine ⟨j', by omega, ?_⟩
        rw [List.getD_eq_getElem?_getD, List.getElem?_eq_getElem hj']
        simp [he]
      · exact ⟨.inl rfl, rfl, .inl rfl, rfl, rfl, .inl rfl, .inl rfl, trivial⟩
  · conv => whnf
    repeat' ((first | contradiction | (refine And.intro (fun hb => ?_) (fun hb => ?_) <;> first | contradiction | ((try simp only [SB, reduceCtorEq] at hb); try (exfalso; first | contradiction | omega))) | refine G2 ?_ | rw [ints_at (by omega)] | rw [ints_at0 (by omega)] | rw [ints_at' (by omega) (by omega)] | refine G1 ?_ | fail) <;> conv => whnf)
    refine ⟨.inl rfl, ?_⟩
    conv => whnf
    have hf := hT.fin hord (by omega)
    rw [nb_eq] at hf
    exact ⟨[some 0], .ref 0 0 G.length, [some (.arr 1 (ints out))], ⟨rfl, And.intro (And.intro rfl rfl) trivial⟩, rfl, rfl, hq out hf⟩
def c_impl_isIn : ICode := (.seq (.reg [Ol 4 .mv [cb false]]) (.seq (.reg [O1 5 .mv 0, O1 6 .mv 1, O2 7 (.bin .andNot) 5 6, Ol 8 (.bin .eql) [.t 7, ci 0], O1 4 .mv 8]) .ret))
theorem b_impl_isIn : Body Try.prog 181 9 c_impl_isIn [(.t 4)] := body_mk Try.func181 (by kernel_rfl) (by decide)
def c_impl_graph_lives : ICode := (.seq (.reg [Ol 6 .mv [cb false]]) (.seq (.reg [O1 16 .mv 0, O1 17 .mv 1, O2 18 (.call 103) 16 17, O1 19 .mv 0, O1 20 (.call 104) 19, O1 7 .mv 18, O1 8 .mv 20]) (.seq (.reg [O0 21 (.mkm false), O1 9 .mv 21]) (.seq (.reg [O0 22 (.mkm false), O1 10 .mv 22]) (.seq (.seq (.reg [O1 23 .mv 0, O1 24 .nck 23, O1 25 (.fadr 0) 24, O1 26 .ld1 25, O1 27 .len 26, Ol 28 .mv [ci 0]]) (.block 0 (.loop (.seq (.reg [O2 29 (.bin .lss) 28 27]) (.seq (.cond (.t 29) .skip (.exit 0)) (.seq (.block 1 (.seq (.reg [O1 30 .mv 28, O2 31 (.iadr 1) 26 28, O1 32 .ld1 31, O1 11 .mv 30, O1 12 .mv 32]) (.seq (.reg [O1 33 .mv 12, O1 34 .len 33, Ol 35 .mv [ci 0]]) (.block 2 (.loop (.seq (.reg [O2 36 (.bin .lss) 35 34]) (.seq (.cond (.t 36) .skip (.exit 2)) (.seq (.block 3 (.seq (.reg [O2 37 (.iadr 2) 33 35, O1 38 (.ldn 2) 37, O0 14 (.alc [(.int .i64 0), (.int .i64 0)]), S2 (.st 2) 14 38]) (.seq (.drw [O1 39 .mv 7, O1 40 .mv 11, O2 41 (.iadr 1) 39 40, O1 42 .ld1 41, Ol 43 (.bin .geq) [.t 42, ci 0], O1 44 .mv 43, Og 45 .mv [.t 8] 44 true, Og 46 .mv [.t 11] 44 true, Og 47 (.iadr 1) [.t 45, .t 46] 44 true, Og 48 .ld1 [.t 47] 44 true, Og 49 .mv [.t 8] 44 true, Og 50 (.fadr 0) [.t 14] 44 true, Og 51 .ld1 [.t 50] 44 true, Og 52 (.iadr 1) [.t 49, .t 51] 44 true, Og 53 .ld1 [.t 52] 44 true, Og 54 (.bin .eql) [.t 48, .t 53] 44 true, Ol 55 .pick [.t 44, .t 54, cb false]] (unB [0, 0, 3, 7, 15, 31, 63, 63, 255, 511, 63, 63, 2111, 7231, 15423, 32767, 65535] 0) true true) (.cond (.t 55) (.seq (.drw [O1 56 .mv 9, O1 57 .mv 8, O1 58 .mv 11, O2 59 (.iadr 1) 57 58, O1 60 .ld1 59, O2 61 (.mlk false) 56 60, O1 62 (.fadr 1) 14, O1 63 .ld1 62, O2 64 (.bin .or) 61 63, Sl (.mup false) [.t 56, .t 60, .t 64]] (unB [0, 0, 0, 6, 14, 31, 0, 64, 255, 511] 0) true true) (.reg [O1 65 .mv 10, O1 66 .mv 8, O1 67 .mv 11, O2 68 (.iadr 1) 66 67, O1 69 .ld1 68, Sl (.mup false) [.t 65, .t 69, ci 1]])) .skip)))) (.reg [Ol 70 (.bin .add) [.t 35, ci 1], O1 35 .mv 70]))))))))) (.reg [Ol 71 (.bin .add) [.t 28, ci 1], O1 28 .mv 71]))))))) (.seq (.seq (.reg [O1 72 .mv 10, O1 73 (.rng false) 72]) (.block 4 (.loop (.seq (.reg [O1 74 .nxt 73, O1 75 (.ext 0) 74]) (.seq (.cond (.t 75) .skip (.exit 4)) (.block 5 (.seq (.reg [O1 76 .ent 73, O1 77 (.ext 0) 76, O1 15 .mv 77]) (.seq (.reg [O1 78 .mv 2, O1 79 .mv 9, O1 80 .mv 15, O2 81 (.mlk false) 79 80, O2 82 (.call 181) 78 81]) (.cond (.t 82) (.seq (.reg [Ol 6 .mv [cb true]]) .ret) .skip))))))))) (.seq (.reg [Ol 6 .mv [cb false]]) .ret)))))))
theorem b_impl_graph_lives : Body Try.prog 118 83 c_impl_graph_lives [(.t 6)] := body_mk Try.func118 (by kernel_rfl) (by decide)
/-! ### maps, plainly -/
theorem mget_set {es : List MEnt} {k k' : List Sc} {v : Int} : mget (mset es k v) k' = if k' = k then v else mget es k' := by
  unfold mset
  cases hh : mhas es k with
  | true =>
    rw [if_pos rfl]
    unfold mget
    have hm : mhas es k = true := hh
    unfold mhas at hm
    clear hh
    induction es with
    | nil => simp at hm
    | cons e r ih =>
      rw [List.map_cons, List.find?_cons, List.find?_cons]
      by_cases hek : e.1 = k
      · rw [if_pos hek]
        by_cases hk : k' = k
        · subst hk; simp
        · have h2 : ¬ e.1 = k' := fun h => hk (h.symm.trans hek)
          have h3 : ¬ k = k' := fun h => hk h.symm
          simp only [h2, h3, decide_false, hk, if_false]
          cases hr : r.any fun e => decide (e.1 = k) with
          | true => have := ih hr; simpa [hk] using this
          | false =>
            have hno : ∀ x ∈ r, ¬ x.1 = k := fun x hx => by have := (List.any_eq_false.1 hr) x hx; simpa using this
            have e1 : (r.map fun e => if e.1 = k then (k, v) else e) = r := by
              conv => rhs; rw [← List.map_id r]
              refine List.map_congr_left fun x hx => ?_
              rw [if_neg (hno x hx)]; rfl
            rw [e1]
      · rw [if_neg hek]
        have hr : (r.any fun e => decide (e.1 = k)) = true := by simpa [hek] using hm
        by_cases h2 : e.1 = k'
        · have h3 : ¬ k' = k := fun h => hek (h2.trans h)
          simp [h2, h3]
        · simp only [h2, decide_false]
          exact ih hr
  | false =>
    rw [if_neg (by simp)]
    unfold mhas at hh
    rw [List.any_eq_false] at hh
    unfold mget
    rw [List.find?_append]
    by_cases hk : k' = k
    · subst hk
      rw [List.find?_eq_none.2 (fun x hx => by simpa using hh x hx)]
      simp
    · have h3 : ¬ k = k' := fun h => hk h.symm
      simp only [hk, if_false, List.find?_cons, h3, decide_false, List.find?_nil, Option.or_none]
theorem mhas_set {es : List MEnt} {k k' : List Sc} {v : Int} : mhas (mset es k v) k' = true ↔ k' = k ∨ mhas es k' = true := by
  unfold mset
  cases hh : mhas es k with
  | true =>
    rw [if_pos rfl]
    unfold mhas at hh ⊢
    simp only [List.any_map, List.any_eq_true, Function.comp, decide_eq_true_eq] at hh ⊢
    constructor
    · rintro ⟨e, he, h⟩
      split at h
      · exact .inl h.symm
      · exact .inr ⟨e, he, h⟩
    · rintro (rfl | ⟨e, he, h⟩)
      · obtain ⟨e, he, h⟩ := hh
        exact ⟨e, he, by rw [if_pos h]⟩
      · refine ⟨e, he, ?_⟩
        split
        · rename_i h2; rw [← h2, h]
        · exact h
  | false =>
    rw [if_neg (by simp)]
    unfold mhas
    simp only [List.any_append, List.any_cons, List.any_nil, Bool.or_false, Bool.or_eq_true, decide_eq_true_eq]
    constructor
    · rintro (h | h)
      · exact .inr h
      · exact .inl h.symm
    · rintro (h | h)
      · exact .inr h.symm
      · exact .inl h
/-! ### sets in sets -/
theorem sub_iff {X Y : Nat} : ((X &&& Y) == X) = true ↔ ∀ b, X.testBit b = true → Y.testBit b = true := by
  rw [beq_iff_eq]
  constructor
  · intro h b hb
    rw [← h, Nat.testBit_and, Bool.and_eq_true] at hb
    exact hb.2
  · intro h
    refine bits_ext fun b => ?_
    rw [Nat.testBit_and, Bool.and_eq_true]
    exact ⟨fun h => h.1, fun hb => ⟨hb, h b hb⟩⟩
theorem andNot_bits {X Y i : Nat} (hX : X < 2 ^ 62) (hY : Y < 2 ^ 62) : (BitVec.ofInt IntKind.i64.bits ((X : Nat) : Int) &&& ~~~BitVec.ofInt IntKind.i64.bits ((Y : Nat) : Int)).toNat.testBit i = true ↔ X.testBit i = true ∧ ¬ Y.testBit i = true := by
  have hb : IntKind.i64.bits = 64 := rfl
  rw [hb, BitVec.toNat_and, BitVec.toNat_not, toNat_ofInt64 (by omega) (by omega), toNat_ofInt64 (by omega) (by omega), Int.toNat_natCast, Int.toNat_natCast, Nat.testBit_and, Bool.and_eq_true,
    show 2 ^ 64 - 1 - Y = 2 ^ 64 - (Y + 1) by omega, Nat.testBit_two_pow_sub_succ (by omega), Bool.and_eq_true]
  constructor
  · rintro ⟨h1, _, h2⟩; exact ⟨h1, by simpa using h2⟩
  · rintro ⟨h1, h2⟩; exact ⟨h1, by simpa using bit_lt (show X < 2 ^ 64 by omega) h1, by simpa using h2⟩
theorem andNot_zero {X Y : Nat} (hX : X < 2 ^ 62) (hY : Y < 2 ^ 62) : IntKind.i64.wrap (BitVec.ofInt IntKind.i64.bits ((X : Nat) : Int) &&& ~~~BitVec.ofInt IntKind.i64.bits ((Y : Nat) : Int)).toNat = 0 ↔ ((X &&& Y) == X) = true := by
  have hle : (BitVec.ofInt IntKind.i64.bits ((X : Nat) : Int) &&& ~~~BitVec.ofInt IntKind.i64.bits ((Y : Nat) : Int)).toNat ≤ X := sub_le fun i h => ((andNot_bits hX hY).1 h).1
  rw [IntWalk.i64_in _ (by omega), sub_iff]
  constructor
  · intro h b hb
    refine Classical.byContradiction fun hn => ?_
    have := (andNot_bits (X := X) (Y := Y) hX hY).2 ⟨hb, hn⟩
    rw [show (BitVec.ofInt IntKind.i64.bits ((X : Nat) : Int) &&& ~~~BitVec.ofInt IntKind.i64.bits ((Y : Nat) : Int)).toNat = 0 by omega, Nat.zero_testBit] at this
    cases this
  · intro h
    have : (BitVec.ofInt IntKind.i64.bits ((X : Nat) : Int) &&& ~~~BitVec.ofInt IntKind.i64.bits ((Y : Nat) : Int)).toNat = 0 := bits_ext fun i => by
      rw [andNot_bits hX hY, Nat.zero_testBit]
      exact ⟨fun hh => absurd (h i hh.1) hh.2, fun hh => by cases hh⟩
    rw [this]; rfl
def RIsIn (xs : List AV) (r : AV) (objs : List AObj) : Prop := ∃ X Y : Nat, xs = [.int .i64 ((X : Nat) : Int), .int .i64 ((Y : Nat) : Int)] ∧ X < 2 ^ 62 ∧ Y < 2 ^ 62 ∧ r = .bool ((X &&& Y) == X) ∧ objs = []
theorem RIsIn_eq {xs : List AV} {X Y : Nat} (hx : xs = [.int .i64 ((X : Nat) : Int), .int .i64 ((Y : Nat) : Int)]) (h : X < 2 ^ 62) (h1 : Y < 2 ^ 62) : RIsIn xs (.bool ((X &&& Y) == X)) [] := ⟨X, Y, hx, h, h1, rfl, rfl⟩
theorem s_impl_isIn : PureSound Try.prog 181 RIsIn := by
  have hR : Rely Try.prog (ctxOf []) := rely_nil mixed
  refine pure_of_aw b_impl_isIn ?_
  rintro xs r objs ⟨X, Y, rfl, hX, hY, rfl, rfl⟩ -
  have h0 := andNot_zero hX hY
  refine ⟨by simp, vc2_sound hR _ _ _ _ _ ?_⟩
  conv => whnf
  repeat' ((first | contradiction | (refine And.intro (fun hb => ?_) (fun hb => ?_) <;> first | contradiction | ((try simp only [SB, reduceCtorEq] at hb); try (exfalso; first | contradiction | omega))) | refine G2 ?_ | rw [ints_at (by omega)] | rw [ints_at0 (by omega)] | rw [ints_at' (by omega) (by omega)] | refine G1 ?_ | fail) <;> conv => whnf)
  all_goals
    refine ⟨.inl rfl, ?_⟩
    conv => whnf
    refine ⟨[], ⟨rfl, trivial⟩, ?_, rfl, rfl⟩
    conv => whnf
    left
    conv => lhs; whnf
    refine congrArg AV.bool ?_
    symm
    first
    | exact h0.1 (by assumption)
    | exact Bool.eq_false_iff.2 fun h => absurd (h0.2 h) (by assumption)
/-! ### rings that live -/
def Lives (G : GraphD) (src : List Nat) (all : Nat) : Prop := ∃ p, p < G.length ∧ Rch (Adj G) (· ∈ src) p ∧ (∃ s ∈ G.getD p [], Mut (Adj G) p s.1) ∧
  ∀ b, all.testBit b = true → ∃ q, ∃ s ∈ G.getD q [], Mut (Adj G) p q ∧ Mut (Adj G) p s.1 ∧ s.2.toNat.testBit b = true
def Inn (G : GraphD) (F out : List Int) (r : Int) (q i : Nat) : Prop := q < G.length ∧ i < (G.getD q []).length ∧ 0 ≤ F.getD q 0 ∧ out.getD q 0 = r ∧ out.getD ((G.getD q []).getD i default).1 0 = r
def Bef (p j q i : Nat) : Prop := q < p ∨ (q = p ∧ i < j)
structure LvI (G : GraphD) (F out : List Int) (p j : Nat) (ms rs : List MEnt) : Prop where
  pos : ∀ r, 0 ≤ mget ms [.i r] ∧ mget ms [.i r] < 2 ^ 31
  mrk : ∀ r b, (mget ms [.i r]).toNat.testBit b = true ↔ ∃ q i, Bef p j q i ∧ Inn G F out r q i ∧ ((G.getD q []).getD i default).2.toNat.testBit b = true
  rg : ∀ r, mhas rs [.i r] = true ↔ ∃ q i, Bef p j q i ∧ Inn G F out r q i
  shape : ∀ e ∈ rs, ∃ r, e.1 = [.i r]
theorem lv_start (G : GraphD) (F out : List Int) : LvI G F out 0 0 [] [] := by
  refine ⟨fun r => ⟨Int.le_refl _, show (0 : Int) < 2 ^ 31 by decide⟩, fun r b => ?_, fun r => ?_, fun e h => by cases h⟩
  · constructor
    · intro h; simp [mget] at h
    · rintro ⟨q, i, h, _⟩; rcases h with h | ⟨_, h⟩ <;> omega
  · constructor
    · intro h; simp [mhas] at h
    · rintro ⟨q, i, h, _⟩; rcases h with h | ⟨_, h⟩ <;> omega
section
variable {G : GraphD} {F out : List Int} {p j : Nat} {ms rs : List MEnt}
theorem LvI.next (h : LvI G F out p j ms rs) (hj : (G.getD p []).length ≤ j) : LvI G F out (p + 1) 0 ms rs := by
  have key : ∀ q i r, Inn G F out r q i → (Bef p j q i ↔ Bef (p + 1) 0 q i) := by
    rintro q i r ⟨_, h2, _⟩
    unfold Bef
    by_cases hq : q = p
    · subst hq; constructor <;> intro <;> omega
    · constructor <;> intro <;> omega
  refine ⟨h.pos, fun r b => (h.mrk r b).trans ?_, fun r => (h.rg r).trans ?_, h.shape⟩
  · exact ⟨fun ⟨q, i, h1, h2, h3⟩ => ⟨q, i, (key q i r h2).1 h1, h2, h3⟩, fun ⟨q, i, h1, h2, h3⟩ => ⟨q, i, (key q i r h2).2 h1, h2, h3⟩⟩
  · exact ⟨fun ⟨q, i, h1, h2⟩ => ⟨q, i, (key q i r h2).1 h1, h2⟩, fun ⟨q, i, h1, h2⟩ => ⟨q, i, (key q i r h2).2 h1, h2⟩⟩
theorem bef_succ {q i : Nat} : Bef p (j + 1) q i ↔ Bef p j q i ∨ (q = p ∧ i = j) := by unfold Bef; omega
theorem LvI.skip (h : LvI G F out p j ms rs) (hn : ∀ r, ¬ Inn G F out r p j) : LvI G F out p (j + 1) ms rs := by
  refine ⟨h.pos, fun r b => (h.mrk r b).trans ?_, fun r => (h.rg r).trans ?_, h.shape⟩
  · refine ⟨fun ⟨q, i, h1, h2⟩ => ⟨q, i, bef_succ.2 (.inl h1), h2⟩, fun ⟨q, i, h1, h2, h3⟩ => ⟨q, i, ?_, h2, h3⟩⟩
    rcases bef_succ.1 h1 with h1 | ⟨rfl, rfl⟩
    · exact h1
    · exact absurd h2 (hn r)
  · refine ⟨fun ⟨q, i, h1, h2⟩ => ⟨q, i, bef_succ.2 (.inl h1), h2⟩, fun ⟨q, i, h1, h2⟩ => ⟨q, i, ?_, h2⟩⟩
    rcases bef_succ.1 h1 with h1 | ⟨rfl, rfl⟩
    · exact h1
    · exact absurd h2 (hn r)
theorem LvI.put (h : LvI G F out p j ms rs) {r0 : Int} (hin : Inn G F out r0 p j) {m : Nat} (hm : ((G.getD p []).getD j default).2.toNat = m) (hml : m < 2 ^ 31) :
    LvI G F out p (j + 1) (mset ms [.i r0] (((mget ms [.i r0]).toNat ||| m : Nat) : Int)) (mset rs [.i r0] 1) := by
  have hp := h.pos r0
  have hlt : (mget ms [.i r0]).toNat ||| m < 2 ^ 31 := Nat.or_lt_two_pow (by omega) hml
  have hr : ∀ r, Inn G F out r p j → r = r0 := fun r ⟨_, _, _, h1, _⟩ => by rw [← h1]; exact hin.2.2.2.1
  refine ⟨fun r => ?_, fun r b => ?_, fun r => ?_, fun e he => ?_⟩
  · rw [mget_set]
    split
    · omega
    · exact h.pos r
  · rw [mget_set]
    by_cases hrr : r = r0
    · subst hrr
      rw [if_pos rfl, Int.toNat_natCast, Nat.testBit_or, Bool.or_eq_true, h.mrk]
      constructor
      · rintro (⟨q, i, h1, h2⟩ | h1)
        · exact ⟨q, i, bef_succ.2 (.inl h1), h2⟩
        · exact ⟨p, j, bef_succ.2 (.inr ⟨rfl, rfl⟩), hin, by rw [hm]; exact h1⟩
      · rintro ⟨q, i, h1, h2, h3⟩
        rcases bef_succ.1 h1 with h1 | ⟨rfl, rfl⟩
        · exact .inl ⟨q, i, h1, h2, h3⟩
        · exact .inr (by rw [← hm]; exact h3)
    · rw [if_neg (by simpa using hrr), h.mrk]
      refine ⟨fun ⟨q, i, h1, h2⟩ => ⟨q, i, bef_succ.2 (.inl h1), h2⟩, fun ⟨q, i, h1, h2, h3⟩ => ⟨q, i, ?_, h2, h3⟩⟩
      rcases bef_succ.1 h1 with h1 | ⟨rfl, rfl⟩
      · exact h1
      · exact absurd (hr r h2) hrr
  · rw [mhas_set, h.rg]
    constructor
    · rintro (h1 | ⟨q, i, h1, h2⟩)
      · have : r = r0 := by simpa using h1
        subst this
        exact ⟨p, j, bef_succ.2 (.inr ⟨rfl, rfl⟩), hin⟩
      · exact ⟨q, i, bef_succ.2 (.inl h1), h2⟩
    · rintro ⟨q, i, h1, h2⟩
      rcases bef_succ.1 h1 with h1 | ⟨rfl, rfl⟩
      · exact .inr ⟨q, i, h1, h2⟩
      · exact .inl (by rw [hr r h2])
  · unfold mset at he
    split at he
    · obtain ⟨e0, h0, rfl⟩ := List.mem_map.1 he
      split
      · exact ⟨r0, rfl⟩
      · exact h.shape e0 h0
    · rcases List.mem_append.1 he with he | he
      · exact h.shape e he
      · simp at he; subst he; exact ⟨r0, rfl⟩
end
theorem far_rch {G : GraphD} {src : List Nat} {q : Nat} (hq : q < G.length) : 0 ≤ (farL (Adj G) (· ∈ src) G.length).getD q 0 ↔ Rch (Adj G) (· ∈ src) q := by
  rw [farL_at hq]
  constructor
  · intro h
    rcases dist_cases (Adj G) (· ∈ src) q with c | c
    · omega
    · exact walk_rch c.2.1
  · intro h
    obtain ⟨k, hk⟩ := rch_walk h
    rcases dist_cases (Adj G) (· ∈ src) q with c | c
    · exact absurd hk (c.2 k)
    · exact c.1
theorem lives_of {G : GraphD} {src : List Nat} {all : Nat} {out : List Int} (hG : GOk G) (ho : IsRings (Adj G) G.length out) {ms rs : List MEnt} (h : LvI G (farL (Adj G) (· ∈ src) G.length) out G.length 0 ms rs) :
    Lives G src all ↔ ∃ r, mhas rs [.i r] = true ∧ ∀ b, all.testBit b = true → (mget ms [.i r]).toNat.testBit b = true := by
  have hmem : ∀ q i, i < (G.getD q []).length → (G.getD q []).getD i default ∈ G.getD q [] := fun q i hi => getD_mem' hi
  constructor
  · rintro ⟨p, hp, hr, ⟨s, hs, hm⟩, hall⟩
    refine ⟨out.getD p 0, ?_, fun b hb => ?_⟩
    · rw [h.rg]
      obtain ⟨i, hi, he⟩ := List.getElem_of_mem hs
      have hse : (G.getD p []).getD i default = s := by rw [List.getD_eq_getElem?_getD (l := _) (i := i), List.getElem?_eq_getElem hi]; exact he
      exact ⟨p, i, .inl hp, hp, hi, (far_rch hp).2 hr, rfl, by rw [hse]; exact ((ho.2.2 p s.1 hp (hG p s hs)).2 hm).symm⟩
    · rw [h.mrk]
      obtain ⟨q, s, hs, hpq, hps, hb2⟩ := hall b hb
      obtain ⟨i, hi, he⟩ := List.getElem_of_mem hs
      have hse : (G.getD q []).getD i default = s := by rw [List.getD_eq_getElem?_getD (l := _) (i := i), List.getElem?_eq_getElem hi]; exact he
      have hq : q < G.length := (adj_lt hG ⟨s.2, hs⟩).1
      refine ⟨q, i, .inl hq, ⟨hq, hi, (far_rch hq).2 ?_, ((ho.2.2 p q hp hq).2 hpq).symm, ?_⟩, by rw [hse]; exact hb2⟩
      · exact hpq.1.mono fun x hx => hx ▸ hr
      · rw [hse]; exact ((ho.2.2 p s.1 hp (hG q s hs)).2 hps).symm
  · rintro ⟨r, hr, hall⟩
    obtain ⟨p, i, _, hp, hi, hf, h1, h2⟩ := (h.rg r).1 hr
    have hsl := hG p _ (hmem p i hi)
    refine ⟨p, hp, (far_rch hp).1 hf, ⟨_, hmem p i hi, (ho.2.2 _ _ hp hsl).1 (h1.trans h2.symm)⟩, fun b hb => ?_⟩
    obtain ⟨q, k, _, ⟨hq, hk, _, g1, g2⟩, g3⟩ := (h.mrk r b).1 (hall b hb)
    have hkl := hG q _ (hmem q k hk)
    exact ⟨q, _, hmem q k hk, (ho.2.2 _ _ hp hq).1 (h1.trans g1.symm), (ho.2.2 _ _ hp hkl).1 (h1.trans g2.symm), g3⟩
def MarksOk (G : GraphD) : Prop := ∀ p, ∀ s ∈ G.getD p [], 0 ≤ s.2 ∧ s.2 < 2 ^ 31
def RLives (xs : List AV) (r : AV) (objs : List AObj) : Prop := ∃ (G : GraphD) (src : List Nat) (all : Nat) (b : Bool), xs = [.rptr [.val (gRows G)] 0, .val (ints (natsI src)), .int .i64 ((all : Nat) : Int)] ∧ GOk G ∧ MarksOk G ∧ G.length ≤ 100000 ∧ steps G ≤ 1000000000 ∧
  (∀ p ∈ src, p < G.length) ∧ src.length ≤ 100000 ∧ all < 2 ^ 31 ∧ (b = true ↔ Lives G src all) ∧ r = .bool b ∧ objs = []
set_option maxHeartbeats 8000000 in
theorem s_impl_lives : PureSound Try.prog 118 RLives := by
  have hR : Rely Try.prog (ctxOf [(103, .pure RFar), (104, .gen 0 GRings), (181, .pure RIsIn)]) :=
    rely_cons b_impl_graph_far.has s_impl_far (rely_cons b_impl_graph_rings.has s_impl_rings (rely_cons b_impl_isIn.has s_impl_isIn (rely_nil mixed)))
  refine pure_of_aw b_impl_graph_lives ?_
  rintro xs r objs ⟨G, src, all, bb, rfl, hG, hM, hn, hst, hsrc, hsl, hall, hbb, rfl, rfl⟩ -
  have hle := length_gRows G
  refine ⟨by simp, vc2_sound hR _ _ _ _ _ ?_⟩
  conv => whnf
  repeat' ((first | contradiction | (refine And.intro (fun hb => ?_) (fun hb => ?_) <;> first | contradiction | ((try simp only [SB, reduceCtorEq] at hb); try (exfalso; first | contradiction | omega))) | refine G2 ?_ | rw [ints_at (by omega)] | rw [ints_at0 (by omega)] | rw [ints_at' (by omega) (by omega)] | refine G1 ?_ | rw [hle] | refine ⟨_, _, RFar_eq (G := G) (src := src) rfl hG hn hst hsrc hsl, ?_⟩ | refine ⟨GRings_mk hG hn hst (fun out hout => ?_)⟩ | fail) <;> conv => whnf)
  have hfl : (farL (Adj G) (· ∈ src) G.length).length = G.length := length_farL
  have hlv := fun ms rs h => lives_of (src := src) (all := all) hG hout (ms := ms) (rs := rs) h
  have hpo : ∀ p, p < G.length → 0 ≤ out.getD p 0 ∧ out.getD p 0 < G.length := hout.2.1
  have hol : out.length = G.length := hout.1
  generalize hF : farL (Adj G) (· ∈ src) G.length = F at *
  have hFi := (length_ints F).trans hfl
  have hoi := (length_ints out).trans hol
  refine Lp.intro (α := Nat × List MEnt × List MEnt) (fun c => LvI G F out c.1 0 c.2.1 c.2.2 ∧ c.1 ≤ G.length) (fun c => G.length - c.1)
    (fun c => [(2, .int .i64 all), (7, .val (ints F)), (8, .val (ints out)), (9, .mp 0), (10, .mp 1), (26, .val (gRows G)), (27, .int .i64 G.length), (28, .int .i64 c.1)]) (fun c => [some (.map false c.2.1), some (.map false c.2.2)]) ?_ ?_
  · refine ⟨(0, [], []), ⟨lv_start G F out, Nat.zero_le _⟩, [some 2, some 3], rfl, rfl, And.intro ⟨rfl, rfl⟩ (And.intro ⟨rfl, rfl⟩ trivial), ?_⟩
    exact ⟨.inl rfl, .inr (snap_all rfl hFi), .inr (snap_all rfl hoi), rfl, rfl, .inl rfl, .inl rfl, .inl rfl, trivial⟩
  rintro ⟨p, ms, rs⟩ ⟨hI, hp⟩
  dsimp only at hI hp ⊢
  refine vc2_sound hR _ _ _ _ _ ?_
  by_cases hlt : p < G.length
  · have hsl2 := length_stepRows (G.getD p [])
    have hLb := steps_le hlt
    conv => whnf
    repeat' ((first | contradiction | (refine And.intro (fun hb => ?_) (fun hb => ?_) <;> first | contradiction | ((try simp only [SB, reduceCtorEq] at hb); try (exfalso; first | contradiction | omega))) | refine G2 ?_ | rw [ints_at (by omega)] | rw [ints_at0 (by omega)] | rw [ints_at' (by omega) (by omega)] | refine G1 ?_ | rw [gRows_at hlt] | fail) <;> conv => whnf)
    refine Lp.intro (α := Nat × List MEnt × List MEnt) (fun c => LvI G F out p c.1 c.2.1 c.2.2 ∧ c.1 ≤ (G.getD p []).length) (fun c => (G.getD p []).length - c.1)
      (fun c => [(2, .int .i64 all), (7, .val (ints F)), (8, .val (ints out)), (9, .mp 0), (10, .mp 1), (11, .int .i64 p), (26, .val (gRows G)), (27, .int .i64 G.length), (28, .int .i64 p), (33, .val (stepRows (G.getD p []))), (34, .int .i64 (G.getD p []).length), (35, .int .i64 c.1)]) (fun c => [some (.map false c.2.1), some (.map false c.2.2)]) ?_ ?_
    · refine ⟨(0, ms, rs), ⟨hI, Nat.zero_le _⟩, [some 0, some 1], rfl, rfl, And.intro ⟨rfl, rfl⟩ (And.intro ⟨rfl, rfl⟩ trivial), ?_⟩
      exact ⟨.inl rfl, .inl rfl, .inl rfl, rfl, rfl, .inl rfl, .inl rfl, .inl rfl, .inl rfl, .inl rfl, .inl (congrArg (fun x : Nat => AV.int .i64 x) hsl2), .inl rfl, trivial⟩
    clear hI ms rs
    rintro ⟨j, ms, rs⟩ ⟨hI, hj⟩
    dsimp only at hI hj ⊢
    refine vc2_sound hR _ _ _ _ _ ?_
    by_cases hjl : j < (G.getD p []).length
    · have hs : ((G.getD p []).getD j default).1 < G.length := hG p _ (getD_mem' hjl)
      have hm := hM p _ (getD_mem' hjl)
      have hFp : (ints F)[((p : Nat) : Int).toNat]? = some [.int .i64 (F.getD p 0)] := by rw [ints_at (by omega)]
      have hop : (ints out)[((p : Nat) : Int).toNat]? = some [.int .i64 (out.getD p 0)] := by rw [ints_at (by omega)]
      have hos : (ints out)[((((G.getD p []).getD j default).1 : Nat) : Int).toNat]? = some [.int .i64 (out.getD ((G.getD p []).getD j default).1 0)] := by rw [ints_at (by omega)]
      conv => whnf
      repeat' ((first | contradiction | (refine And.intro (fun hb => ?_) (fun hb => ?_) <;> first | contradiction | ((try simp only [SB, reduceCtorEq] at hb); try (exfalso; first | contradiction | omega))) | refine G2 ?_ | rw [ints_at (by omega)] | rw [ints_at0 (by omega)] | rw [ints_at' (by omega) (by omega)] | refine G1 ?_ | rw [step_at hjl] | rw [hFp] | rw [hop] | rw [hos] | fail) <;> conv => whnf)
      · have hpos := hI.pos (out.getD p 0)
        have hor := or_val (X := (mget ms [.i (out.getD p 0)]).toNat) (Y := ((G.getD p []).getD j default).2.toNat) (by omega) (by omega)
        rw [Int.toNat_of_nonneg hpos.1, Int.toNat_of_nonneg hm.1] at hor
        have hput := hI.put (r0 := out.getD p 0) ⟨hlt, hjl, by assumption, rfl, by symm; assumption⟩ rfl (by omega)
        refine ⟨(j + 1, _, _), ⟨hput, hjl⟩, by dsimp only; omega, [some 0, some 1], rfl, rfl, And.intro ⟨rfl, congrArg (mset ms [Sc.i (out.getD p 0)]) hor⟩ (And.intro ⟨rfl, rfl⟩ trivial), ?_⟩
        exact ⟨.inl rfl, .inl rfl, .inl rfl, rfl, rfl, .inl rfl, .inl rfl, .inl rfl, .inl rfl, .inl rfl, .inl rfl, .inl rfl, trivial⟩
      all_goals
        refine ⟨(j + 1, ms, rs), ⟨hI.skip (fun r hr => ?_), hjl⟩, by dsimp only; omega, [some 0, some 1], rfl, rfl, And.intro ⟨rfl, rfl⟩ (And.intro ⟨rfl, rfl⟩ trivial), ?_⟩
        · obtain ⟨_, _, h1, h2, h3⟩ := hr
          omega
        · exact ⟨.inl rfl, .inl rfl, .inl rfl, rfl, rfl, .inl rfl, .inl rfl, .inl rfl, .inl rfl, .inl rfl, .inl rfl, .inl rfl, trivial⟩
    · conv => whnf
      repeat' ((first | contradiction | (refine And.intro (fun hb => ?_) (fun hb => ?_) <;> first | contradiction | ((try simp only [SB, reduceCtorEq] at hb); try (exfalso; first | contradiction | omega))) | refine G2 ?_ | rw [ints_at (by omega)] | rw [ints_at0 (by omega)] | rw [ints_at' (by omega) (by omega)] | refine G1 ?_ | fail) <;> conv => whnf)
      refine ⟨(p + 1, ms, rs), ⟨hI.next (by omega), hlt⟩, by dsimp only; omega, [some 0, some 1], rfl, rfl, And.intro ⟨rfl, rfl⟩ (And.intro ⟨rfl, rfl⟩ trivial), ?_⟩
      exact ⟨.inl rfl, .inl rfl, .inl rfl, rfl, rfl, .inl rfl, .inl rfl, .inl rfl, trivial⟩
  · obtain rfl : p = G.length := by omega
    conv => whnf
    repeat' ((first | contradiction | (refine And.intro (fun hb => ?_) (fun hb => ?_) <;> first | contradiction | ((try simp only [SB, reduceCtorEq] at hb); try (exfalso; first | contradiction | omega))) | refine G2 ?_ | rw [ints_at (by omega)] | rw [ints_at0 (by omega)] | rw [ints_at' (by omega) (by omega)] | refine G1 ?_ | fail) <;> conv => whnf)
    have hlv := hlv ms rs hI
    refine Lp.intro (α := Option MEnt × List MEnt) (fun c => (∀ e ∈ c.2, e ∈ rs) ∧ ∀ e ∈ rs, e ∈ c.2 ∨ ¬ ∀ b, all.testBit b = true → (mget ms e.1).toNat.testBit b = true) (fun c => c.2.length)
      (fun c => [(2, .int .i64 all), (9, .mp 0), (73, .ptr 1 0 0)]) (fun c => [some (.map false ms), some (.itr false c.1 c.2)]) ?_ ?_
    · refine ⟨(none, rs), ⟨fun e h => h, fun e h => .inl h⟩, [some 0, some 2], rfl, rfl, And.intro ⟨rfl, rfl⟩ (And.intro ⟨rfl, rfl, rfl⟩ trivial), ?_⟩
      exact ⟨.inl rfl, rfl, rfl, trivial⟩
    rintro ⟨cur, left⟩ ⟨h1, h2⟩
    dsimp only at h1 h2 ⊢
    refine vc2_sound hR _ _ _ _ _ ?_
    conv => whnf
    repeat' ((first | contradiction | (refine And.intro (fun hb => ?_) (fun hb => ?_) <;> first | contradiction | ((try simp only [SB, reduceCtorEq] at hb); try (exfalso; first | contradiction | omega))) | refine G2 ?_ | rw [ints_at (by omega)] | rw [ints_at0 (by omega)] | rw [ints_at' (by omega) (by omega)] | refine G1 ?_ | fail) <;> conv => whnf)
    · have hl : left = [] := by assumption
      subst hl
      refine ⟨.inl rfl, ?_⟩
      conv => whnf
      refine ⟨[], ⟨rfl, trivial⟩, ?_, rfl, rfl⟩
      conv => whnf
      left
      conv => lhs; whnf
      refine congrArg AV.bool (Eq.symm (Bool.eq_false_iff.2 fun ht => ?_))
      obtain ⟨r, g1, g2⟩ := hlv.1 (hbb.1 ht)
      unfold mhas at g1
      obtain ⟨e, he, hk⟩ := List.any_eq_true.1 g1
      have hk : e.1 = [Sc.i r] := by simpa using hk
      rcases h2 e he with h | h
      · cases h
      · exact h (by rw [hk]; exact g2)
    · revert hb
      intro pre e post hsp
      have hel : e ∈ left := by rw [hsp]; simp
      obtain ⟨r, hr⟩ := hI.shape e (h1 e hel)
      obtain ⟨k, v⟩ := e
      dsimp only at hr
      subst hr
      have hpos := hI.pos r
      conv => whnf
      repeat' ((first | contradiction | (refine And.intro (fun hb => ?_) (fun hb => ?_) <;> first | contradiction | ((try simp only [SB, reduceCtorEq] at hb); try (exfalso; first | contradiction | omega))) | refine G2 ?_ | rw [ints_at (by omega)] | rw [ints_at0 (by omega)] | rw [ints_at' (by omega) (by omega)] | refine G1 ?_ | refine ⟨_, _, RIsIn_eq (X := all) (Y := (mget ms [.i r]).toNat) (congrArg (fun z => [AV.int .i64 ((all : Nat) : Int), AV.int .i64 z]) (Int.toNat_of_nonneg hpos.1).symm) (by omega) (by omega), ?_⟩ | fail) <;> conv => whnf)
      · have hsub := sub_iff.1 (beq_iff_eq.2 hb)
        refine ⟨.inl rfl, ?_⟩
        conv => whnf
        refine ⟨[], ⟨rfl, trivial⟩, ?_, rfl, rfl⟩
        conv => whnf
        left
        conv => lhs; whnf
        refine congrArg AV.bool (Eq.symm (hbb.2 (hlv.2 ⟨r, ?_, hsub⟩)))
        unfold mhas
        rw [List.any_eq_true]
        exact ⟨_, h1 _ hel, by simp⟩
      · have hsub : ¬ ∀ b, all.testBit b = true → (mget ms [.i r]).toNat.testBit b = true := fun h => hb (beq_iff_eq.1 (sub_iff.2 h))
        refine ⟨(some ([.i r], v), pre ++ post), ⟨fun e he => h1 e ?_, fun e he => ?_⟩, ?_, [some 0, some 1], rfl, rfl, And.intro ⟨rfl, rfl⟩ (And.intro ⟨rfl, rfl, rfl⟩ trivial), ?_⟩
        · rw [hsp]
          rcases List.mem_append.1 he with he | he
          · exact List.mem_append_left _ he
          · exact List.mem_append_right _ (List.mem_cons_of_mem _ he)
        · rcases h2 e he with h | h
          · rw [hsp] at h
            rcases List.mem_append.1 h with h | h
            · exact .inl (List.mem_append_left _ h)
            · rcases List.mem_cons.1 h with rfl | h
              · exact .inr hsub
              · exact .inl (List.mem_append_right _ h)
          · exact .inr h
        · rw [hsp]; simp
        · exact ⟨.inl rfl, rfl, rfl, trivial⟩
def c_impl_Auto_reach : ICode := (.seq (.reg [Ol 4 .mv [ci 0]]) (.block 0 (.loop (.block 1 (.seq (.reg [O1 8 .mv 1, O1 5 .mv 8]) (.seq (.seq (.reg [O1 9 .mv 0, O1 10 .nck 9, O1 11 (.fadr 3) 10, O1 12 .ld1 11, O1 13 .len 12, Ol 14 .mv [ci 0]]) (.block 2 (.loop (.seq (.reg [O2 15 (.bin .lss) 14 13]) (.seq (.cond (.t 15) .skip (.exit 2)) (.seq (.block 3 (.seq (.reg [O2 16 (.iadr 4) 12 14, O1 17 (.ldn 4) 16, O0 7 (.alc [(.int .i64 0), (.int .i64 0), (.int .i64 0), (.bool false)]), S2 (.st 4) 7 17]) (.seq (.reg [O1 18 .mv 5, O1 19 (.fadr 0) 7, O1 20 .ld1 19, O2 21 (.call 125) 18 20]) (.cond (.t 21) (.reg [O1 22 .mv 5, O1 23 (.fadr 2) 7, O1 24 .ld1 23, O1 25 (.call 141) 24, O2 26 (.bin .or) 22 25, O1 5 .mv 26]) .skip)))) (.reg [Ol 27 (.bin .add) [.t 14, ci 1], O1 14 .mv 27]))))))) (.seq (.seq (.reg [O1 28 .mv 5, O1 29 .mv 1, O2 30 (.bin .eql) 28 29]) (.cond (.t 30) (.seq (.reg [O1 31 .mv 1, O1 4 .mv 31]) .ret) .skip)) (.reg [O1 32 .mv 5, O1 1 .mv 32]))))))))
theorem b_impl_Auto_reach : Body Try.prog 112 33 c_impl_Auto_reach [(.t 4)] := body_mk Try.func112 (by kernel_rfl) (by decide)
def EA (a : AutoD) (p q : Nat) : Prop := ∃ e ∈ a.edges, e.src.toNat = p ∧ e.dst.toNat = q
theorem mem_at {a : AutoD} {e : EdgeD} (he : e ∈ a.edges) : ∃ i, i < a.edges.length ∧ a.edges.getD i default = e := by
  obtain ⟨i, hi, rfl⟩ := List.getElem_of_mem he
  exact ⟨i, hi, by rw [List.getD_eq_getElem?_getD, List.getElem?_eq_getElem hi]; rfl⟩
theorem ea_lt {a : AutoD} (h : AutoOk a) {p q : Nat} (ha : EA a p q) : p < a.states.toNat ∧ q < a.states.toNat := by
  obtain ⟨e, he, rfl, rfl⟩ := ha
  obtain ⟨i, hi, rfl⟩ := mem_at he
  have := edge_in h hi
  unfold EdgeIn at this
  omega
noncomputable def autoR (a : AutoD) (X : Nat) : Nat := reachN (EA a) X 31
abbrev BitP (X : Nat) : Nat → Prop := fun i => X.testBit i = true
abbrev SubB (X Y : Nat) : Prop := ∀ p, BitP X p → BitP Y p
structure Rnd (a : AutoD) (S X Y i : Nat) : Prop where
  lt : Y < 2 ^ 31
  sub : SubB X Y
  rch : ∀ p, BitP Y p → Rch (EA a) (BitP S) p
  got : ∀ j, j < i → j < a.edges.length → BitP X (a.edges.getD j default).src.toNat → BitP Y (a.edges.getD j default).dst.toNat
  cls : (∀ p q, BitP X p → EA a p q → BitP X q) → Y = X
theorem Rnd.no {a : AutoD} {S X Y i : Nat} (h : Rnd a S X Y i) (hb : i < a.edges.length → Y.testBit (a.edges.getD i default).src.toNat = false) : Rnd a S X Y (i + 1) := by
  refine ⟨h.lt, h.sub, h.rch, fun j hj hjl hx => ?_, h.cls⟩
  by_cases hji : j = i
  · subst hji
    have := h.sub _ hx
    rw [show BitP Y (a.edges.getD j default).src.toNat ↔ Y.testBit (a.edges.getD j default).src.toNat = true from Iff.rfl, hb hjl] at this
    cases this
  · exact h.got j (by omega) hjl hx
theorem Rnd.yes {a : AutoD} (ha : AutoOk a) {S X Y i : Nat} (h : Rnd a S X Y i) (hi : i < a.edges.length) (hb : Y.testBit (a.edges.getD i default).src.toNat = true) : Rnd a S X (Y ||| 2 ^ (a.edges.getD i default).dst.toNat) (i + 1) := by
  have he : EA a (a.edges.getD i default).src.toNat (a.edges.getD i default).dst.toNat := ⟨_, getD_mem' hi, rfl, rfl⟩
  have hlt := ea_lt ha he
  have hs := ha.1.2.1
  refine ⟨ins_lt h.lt (by omega), fun p hp => testBit_ins.2 (.inl (h.sub p hp)), fun p hp => ?_, fun j hj hjl hx => ?_, fun hc => ?_⟩
  · rcases testBit_ins.1 hp with h1 | rfl
    · exact h.rch p h1
    · exact .step (h.rch _ hb) he
  · refine testBit_ins.2 ?_
    by_cases hji : j = i
    · subst hji; exact .inr rfl
    · exact .inl (h.got j (by omega) hjl hx)
  · have e := h.cls hc
    subst e
    refine bits_ext fun p => ⟨fun hp => ?_, fun hp => testBit_ins.2 (.inl hp)⟩
    rcases testBit_ins.1 hp with h1 | rfl
    · exact h1
    · exact hc _ _ hb he
theorem rnd_start {a : AutoD} {S X : Nat} (hX : X < 2 ^ 31) (hr : ∀ p, BitP X p → Rch (EA a) (BitP S) p) : Rnd a S X X 0 := ⟨hX, fun _ h => h, hr, fun j hj => by omega, fun _ => rfl⟩
theorem Rnd.closed {a : AutoD} {S X i : Nat} (h : Rnd a S X X i) (hi : a.edges.length ≤ i) : ∀ p q, BitP X p → EA a p q → BitP X q := by
  rintro p q hp ⟨e, he, rfl, rfl⟩
  obtain ⟨j, hj, rfl⟩ := mem_at he
  exact h.got j (by omega) hj hp
theorem reach_eq {a : AutoD} {S X : Nat} (hX : X < 2 ^ 31) (hs : SubB S X) (hr : ∀ p, BitP X p → Rch (EA a) (BitP S) p) (hc : ∀ p q, BitP X p → EA a p q → BitP X q) : X = autoR a S :=
  reachN_of hX hs hr hc
def RReach (xs : List AV) (r : AV) (objs : List AObj) : Prop := ∃ (a : AutoD) (X : Nat), xs = [.rptr (autoRow a) 0, .int .i64 ((X : Nat) : Int)] ∧ AutoOk a ∧ X < 2 ^ 31 ∧ r = .int .i64 ((autoR a X : Nat) : Int) ∧ objs = []
theorem RReach_eq {xs : List AV} {a : AutoD} {X : Nat} (hx : xs = [.rptr (autoRow a) 0, .int .i64 ((X : Nat) : Int)]) (h : AutoOk a) (h1 : X < 2 ^ 31) : RReach xs (.int .i64 ((autoR a X : Nat) : Int)) [] := ⟨a, X, hx, h, h1, rfl, rfl⟩
set_option maxHeartbeats 4000000 in
theorem s_impl_reach : PureSound Try.prog 112 RReach := by
  have hR : Rely Try.prog (ctxOf [(125, .pure RHas), (141, .pure RBit)]) := rely_cons b_impl_has.has s_impl_has (rely_cons b_impl_only.has s_impl_onlyB (rely_nil mixed))
  refine pure_of_aw b_impl_Auto_reach ?_
  rintro xs r objs ⟨a, S, rfl, ha, hS, rfl, rfl⟩ -
  have hs := ha.1.2.1
  have hle := length_edgeRows a.edges
  have hl := ha.2.1
  refine ⟨by simp, vc2_sound hR _ _ _ _ _ ?_⟩
  conv => whnf
  repeat' ((first | contradiction | (refine And.intro (fun hb => ?_) (fun hb => ?_) <;> first | contradiction | ((try simp only [SB, reduceCtorEq] at hb); try (exfalso; first | contradiction | omega))) | refine G2 ?_ | rw [ints_at (by omega)] | rw [ints_at0 (by omega)] | rw [ints_at' (by omega) (by omega)] | refine G1 ?_ | fail) <;> conv => whnf)
  refine Lp.intro (α := Nat) (fun X => X < 2 ^ 31 ∧ SubB S X ∧ ∀ p, BitP X p → Rch (EA a) (BitP S) p) (fun X => 2 ^ 31 - X) (fun X => [(0, .rptr (autoRow a) 0), (1, .int .i64 X)]) (fun _ => []) ?_ ?_
  · refine ⟨S, ⟨hS, fun _ h => h, fun p h => .base h⟩, [], rfl, rfl, trivial, ?_⟩
    exact ⟨.inl rfl, .inl rfl, trivial⟩
  rintro X ⟨hX, hsub, hrch⟩
  refine vc2_sound hR _ _ _ _ _ ?_
  conv => whnf
  repeat' ((first | contradiction | (refine And.intro (fun hb => ?_) (fun hb => ?_) <;> first | contradiction | ((try simp only [SB, reduceCtorEq] at hb); try (exfalso; first | contradiction | omega))) | refine G2 ?_ | rw [ints_at (by omega)] | rw [ints_at0 (by omega)] | rw [ints_at' (by omega) (by omega)] | refine G1 ?_ | fail) <;> conv => whnf)
  refine Lp.intro (α := Nat × Nat) (fun b => Rnd a S X b.1 b.2 ∧ b.2 ≤ a.edges.length) (fun b => a.edges.length - b.2) (fun b => [(0, .rptr (autoRow a) 0), (1, .int .i64 X), (5, .int .i64 b.1), (12, .val (edgeRows a.edges)), (13, .int .i64 a.edges.length), (14, .int .i64 b.2)]) (fun _ => []) ?_ ?_
  · refine ⟨(X, 0), ⟨rnd_start hX hrch, Nat.zero_le _⟩, [], rfl, rfl, trivial, ?_⟩
    exact ⟨.inl rfl, .inl rfl, .inl rfl, .inl rfl, .inl (congrArg (fun x : Nat => AV.int .i64 x) hle), .inl rfl, trivial⟩
  rintro ⟨Y, i⟩ ⟨hY, hi⟩
  dsimp only at hY hi ⊢
  have hYl := hY.lt
  refine vc2_sound hR _ _ _ _ _ ?_
  by_cases hlt : i < a.edges.length
  · have he := edge_in ha hlt
    unfold EdgeIn at he
    conv => whnf
    repeat' ((first | contradiction | (refine And.intro (fun hb => ?_) (fun hb => ?_) <;> first | contradiction | ((try simp only [SB, reduceCtorEq] at hb); try (exfalso; first | contradiction | omega))) | refine G2 ?_ | rw [ints_at (by omega)] | rw [ints_at0 (by omega)] | rw [ints_at' (by omega) (by omega)] | refine G1 ?_ | rw [edge_at (by omega)] | refine ⟨_, _, RHas_mk hYl (by omega) (by omega), ?_⟩ | refine ⟨_, _, RBit_mk (by omega) (by omega), ?_⟩ | fail) <;> conv => whnf)
    · refine ⟨(Y ||| 2 ^ (a.edges.getD i default).dst.toNat, i + 1), ⟨hY.yes ha hlt hb, hlt⟩, by dsimp only; omega, [], rfl, rfl, trivial, ?_⟩
      exact ⟨.inl rfl, .inl rfl, .inl (congrArg (AV.int .i64) (or_bit hYl (by omega) (by omega))), .inl rfl, .inl rfl, .inl rfl, trivial⟩
    · refine ⟨(Y, i + 1), ⟨hY.no (fun _ => hb), hlt⟩, by dsimp only; omega, [], rfl, rfl, trivial, ?_⟩
      repeat' (first
        | exact trivial
        | refine ⟨?_, ?_⟩
        | fail)
      all_goals first
        | with_reducible rfl
        | (conv => whnf
           try left
           conv => lhs; whnf
           first
             | rfl
             | exact congrArg (AV.int .i64) (by omega)
             | skip)
  · conv => whnf
    repeat' ((first | contradiction | (refine And.intro (fun hb => ?_) (fun hb => ?_) <;> first | contradiction | ((try simp only [SB, reduceCtorEq] at hb); try (exfalso; first | contradiction | omega))) | refine G2 ?_ | rw [ints_at (by omega)] | rw [ints_at0 (by omega)] | rw [ints_at' (by omega) (by omega)] | refine G1 ?_ | fail) <;> conv => whnf)
    · obtain rfl : Y = X := by omega
      refine ⟨.inl rfl, ?_⟩
      conv => whnf
      refine ⟨[], ⟨rfl, trivial⟩, ?_, rfl, rfl⟩
      conv => whnf
      left
      conv => lhs; whnf
      exact congrArg (fun x : Nat => AV.int .i64 x) (reach_eq hX hsub hrch (hY.closed (by omega)))
    · have h1 := sub_le hY.sub
      refine ⟨Y, ⟨hYl, fun p hp => hY.sub p (hsub p hp), hY.rch⟩, by omega, [], rfl, rfl, trivial, ?_⟩
      repeat' (first
        | exact trivial
        | refine ⟨?_, ?_⟩
        | fail)
      all_goals first
        | with_reducible rfl
        | (conv => whnf
           try left
           conv => lhs; whnf
           first
             | rfl
             | exact congrArg (AV.int .i64) (by omega)
             | skip)
theorem pow_le31 {n : Nat} (h : n ≤ 31) : 2 ^ n ≤ 2 ^ 31 := Nat.pow_le_pow_right (by decide) h
theorem rch_lt {a : AutoD} (ha : AutoOk a) {S p : Nat} (hS : S < 2 ^ a.states.toNat) (h : Rch (EA a) (BitP S) p) : p < a.states.toNat := by
  cases h with
  | base h => exact bit_lt hS h
  | step _ he => exact (ea_lt ha he).2
def c_impl_SetList : ICode := (.seq (.reg [Ol 2 .mv [.c .snil]]) (.seq (.seq (.reg [O1 5 .mv 0, O1 6 (.call 119) 5, O1 7 .not 6]) (.cond (.t 7) (.seq (.reg [Ol 2 .mv [.c .snil]]) .ret) .skip)) (.seq (.reg [Ol 3 .mv [.c .snil]]) (.seq (.seq (.reg [Ol 8 .mv [ci 0]]) (.block 0 (.loop (.seq (.reg [Ol 9 (.bin .lss) [.t 8, ci 31]]) (.seq (.cond (.t 9) .skip (.exit 0)) (.seq (.block 1 (.seq (.reg [O1 10 .mv 8, O1 4 .mv 10]) (.seq (.reg [O1 11 .mv 0, O1 12 .mv 4, O2 13 (.call 125) 11 12]) (.cond (.t 13) (.reg [O1 14 .mv 3, O1 15 .mv 4, O1 16 (.bslv 1) 15, O2 17 (.app 1 8) 14 16, O1 3 .mv 17]) .skip)))) (.reg [Ol 18 (.bin .add) [.t 8, ci 1], O1 8 .mv 18]))))))) (.seq (.reg [O1 19 .mv 3, O1 2 .mv 19]) .ret)))))
theorem b_impl_SetList : Body Try.prog 80 20 c_impl_SetList [(.t 2)] := body_mk Try.func80 (by kernel_rfl) (by decide)
def stepI (a : AutoD) (X : Nat) (x : Int) : Nat → Nat
  | 0 => 0
  | i + 1 => if (a.edges.getD i default).letter = x ∧ X.testBit (a.edges.getD i default).src.toNat = true then stepI a X x i ||| 2 ^ (a.edges.getD i default).dst.toNat else stepI a X x i
def stepU (a : AutoD) (X : Nat) (x : Int) : Nat := stepI a X x a.edges.length
theorem bit_stepI {a : AutoD} {X q : Nat} {x : Int} : ∀ {i : Nat}, (stepI a X x i).testBit q = true ↔ ∃ j, j < i ∧ (a.edges.getD j default).letter = x ∧ X.testBit (a.edges.getD j default).src.toNat = true ∧ (a.edges.getD j default).dst.toNat = q
  | 0 => by simp [stepI]
  | i + 1 => by
    unfold stepI
    split
    · rename_i h
      rw [testBit_ins, bit_stepI (i := i)]
      constructor
      · rintro (⟨j, h1, h2⟩ | rfl)
        · exact ⟨j, by omega, h2⟩
        · exact ⟨i, by omega, h.1, h.2, rfl⟩
      · rintro ⟨j, h1, h2, h3, h4⟩
        by_cases hj : j = i
        · subst hj; exact .inr h4.symm
        · exact .inl ⟨j, by omega, h2, h3, h4⟩
    · rename_i h
      rw [bit_stepI (i := i)]
      constructor
      · rintro ⟨j, h1, h2⟩; exact ⟨j, by omega, h2⟩
      · rintro ⟨j, h1, h2, h3, h4⟩
        by_cases hj : j = i
        · subst hj; exact absurd ⟨h2, h3⟩ h
        · exact ⟨j, by omega, h2, h3, h4⟩
/-! ### those that are so near -/
/-! ### the members of a set, as a list -/
def RSetList (xs : List AV) (r : AV) (objs : List AObj) : Prop := ∃ X : Nat, xs = [.int .i64 ((X : Nat) : Int)] ∧ X < 2 ^ 31 ∧ r = .ref 0 0 (bitL X 31).length ∧ objs = [.arr 1 (ints (natsI (bitL X 31)))]
theorem RSetList_mk {X : Nat} (h : X < 2 ^ 31) : RSetList [.int .i64 ((X : Nat) : Int)] (.ref 0 0 (bitL X 31).length) [.arr 1 (ints (natsI (bitL X 31)))] := ⟨X, rfl, h, rfl, rfl⟩
theorem bitL_yes {X i : Nat} (h : X.testBit i = true) : bitL X (i + 1) = bitL X i ++ [i] := by rw [bitL_succ, if_pos h]
theorem bitL_no {X i : Nat} (h : X.testBit i = false) : bitL X (i + 1) = bitL X i := by rw [bitL_succ, if_neg (by rw [h]; decide), List.append_nil]
theorem s_impl_SetList : PureSound Try.prog 80 RSetList := by
  have hR : Rely Try.prog (ctxOf [(125, .pure RHas), (119, .pure RSetOk)]) := rely_cons b_impl_has.has s_impl_has (rely_cons b_impl_SetOk.has s_impl_SetOk (rely_nil mixed))
  refine pure_of_aw b_impl_SetList ?_
  rintro xs r objs ⟨X, rfl, hX, rfl, rfl⟩ -
  refine ⟨by simp, vc2_sound hR _ _ _ _ _ ?_⟩
  conv => whnf
  repeat' ((first | contradiction | (refine And.intro (fun hb => ?_) (fun hb => ?_) <;> first | contradiction | ((try simp only [SB, reduceCtorEq] at hb); try (exfalso; first | contradiction | omega))) | refine G2 ?_ | rw [ints_at (by omega)] | rw [ints_at0 (by omega)] | rw [ints_at' (by omega) (by omega)] | refine G1 ?_ | refine ⟨_, _, RSetOk_mk, ?_⟩ | fail) <;> conv => whnf)
  refine Lp.intro (α := Nat) (fun i => i ≤ 31) (fun i => 31 - i) (fun i => [(0, .int .i64 X), (3, .ref 0 0 (bitL X i).length), (8, .int .i64 i)]) (fun i => [some (.arr 1 (ints (natsI (bitL X i))))]) ?_ ?_
  · refine ⟨0, by omega, [none], rfl, rfl, And.intro rfl trivial, ?_⟩
    exact ⟨.inl rfl, ⟨rfl, rfl, rfl⟩, .inl rfl, trivial⟩
  intro i hi
  have hn := bitL_len (X := X) (n := i)
  have hqi := (length_ints (natsI (bitL X i))).trans (length_natsI _)
  refine vc2_sound hR _ _ _ _ _ ?_
  by_cases hlt : i < 31
  · conv => whnf
    repeat' ((first | contradiction | (refine And.intro (fun hb => ?_) (fun hb => ?_) <;> first | contradiction | ((try simp only [SB, reduceCtorEq] at hb); try (exfalso; first | contradiction | omega))) | refine G2 ?_ | rw [ints_at (by omega)] | rw [ints_at0 (by omega)] | rw [ints_at' (by omega) (by omega)] | refine G1 ?_ | refine ⟨_, _, RHas_mk hX (by omega) (by omega), ?_⟩ | fail) <;> conv => whnf)
    · refine ⟨i + 1, by omega, by omega, [some 1], rfl, rfl, And.intro (And.intro rfl ?_) trivial, ?_⟩
      · rw [bitL_yes (by assumption)]; exact natsI_app rfl
      · exact ⟨.inl rfl, congrArg (AV.ref 1 0) (by rw [bitL_yes (by assumption)]; simp), .inl rfl, trivial⟩
    · have e := bitL_no (X := X) (i := i) (by assumption)
      refine ⟨i + 1, by omega, by omega, [some 0], rfl, rfl, And.intro (And.intro rfl ?_) trivial, ?_⟩
      · rw [e]
      · exact ⟨.inl rfl, congrArg (AV.ref 0 0) (by rw [e]), .inl rfl, trivial⟩
  · obtain rfl : i = 31 := by omega
    conv => whnf
    repeat' ((first | contradiction | (refine And.intro (fun hb => ?_) (fun hb => ?_) <;> first | contradiction | ((try simp only [SB, reduceCtorEq] at hb); try (exfalso; first | contradiction | omega))) | refine G2 ?_ | rw [ints_at (by omega)] | rw [ints_at0 (by omega)] | rw [ints_at' (by omega) (by omega)] | refine G1 ?_ | fail) <;> conv => whnf)
    refine ⟨.inl rfl, ?_⟩
    conv => whnf
    exact ⟨[some 0], ⟨rfl, And.intro (And.intro rfl rfl) trivial⟩, rfl, rfl, by simp [AObj.nov, ints_nov]⟩
/-! ### the nearest of a set -/
def c_spec_GenTakes : ICode := (.seq (.reg [O1 2 (.box 5) 0, O1 3 (.box 2) 1, Ol 4 .mv [cb false]]) (.seq (.seq (.reg [O1 13 (.ldn 5) 2, O1 14 (.call 69) 13, O1 15 .not 14, O1 16 .mv 15, Og 17 (.ldn 2) [.t 3] 16 false, Og 18 (.fadr 0) [.t 2] 16 false, Og 19 .ld1 [.t 18] 16 false, Og 20 (.call 47) [.t 17, .t 19] 16 false, Og 21 .not [.t 20] 16 false, Ol 22 .pick [.t 16, cb true, .t 21], O1 23 .mv 22, Og 24 (.fadr 1) [.t 2] 23 false, Og 25 .ld1 [.t 24] 23 false, Og 26 (.bin .eql) [.t 25, ci 0] 23 false, Ol 27 .pick [.t 23, cb true, .t 26]]) (.cond (.t 27) (.seq (.reg [Ol 4 .mv [cb false]]) .ret) .skip)) (.seq (.reg [O1 28 (.ldn 5) 2, O1 29 (.ldn 2) 3, O2 30 (.call 99) 28 29, O1 5 .mv 30]) (.seq (.reg [O1 31 .mv 5, O1 32 .len 31, O2 33 (.mks 1 8 [(.int .i64 0)]) 32 32, O1 6 .mv 33]) (.seq (.reg [O1 34 .mv 5, O1 35 .len 34, O2 36 (.mks 1 1 [(.bool false)]) 35 35, O1 7 .mv 36]) (.seq (.seq (.reg [Ol 8 .mv [ci 0]]) (.block 0 (.loop (.seq (.seq (.reg [O1 37 .mv 8, O1 38 (.ldn 2) 3, O1 39 (.call 91) 38, O2 40 (.bin .lss) 37 39]) (.cond (.t 40) .skip (.exit 0))) (.seq (.block 1 (.seq (.reg [Ol 9 .mv [ci 0]]) (.block 2 (.loop (.seq (.seq (.reg [O1 43 .mv 9, O1 44 (.fadr 4) 2, O1 45 .ld1 44, O1 46 .len 45, O2 47 (.bin .lss) 43 46]) (.cond (.t 47) .skip (.exit 2))) (.seq (.block 3 (.seq (.reg [O1 50 (.fadr 4) 2, O1 51 .ld1 50, O1 52 .mv 9, O2 53 (.iadr 4) 51 52, O1 54 (.ldn 4) 53, O0 10 (.alc [(.int .i64 0), (.int .i64 0), (.int .i64 0), (.int .i64 0)]), S2 (.st 4) 10 54]) (.seq (.reg [O1 55 .mv 8, O1 56 (.fadr 1) 2, O1 57 .ld1 56, O2 58 (.bin .mul) 55 57, O1 59 (.fadr 0) 10, O1 60 .ld1 59, O2 61 (.bin .add) 58 60, O1 11 .mv 61]) (.seq (.drw [O1 62 (.fadr 1) 10, O1 63 .ld1 62, O1 64 (.ldn 2) 3, O1 65 .mv 8, O2 66 (.call 93) 64 65, O2 67 (.bin .eql) 63 66, O1 68 .mv 67, Og 69 .mv [.t 5] 68 true, Og 70 .mv [.t 11] 68 true, Og 71 (.iadr 1) [.t 69, .t 70] 68 true, Og 72 .ld1 [.t 71] 68 true, Og 73 (.bin .geq) [.t 72, ci 0] 68 true, Ol 74 .pick [.t 68, .t 73, cb false], O1 75 .mv 74, Og 76 .mv [.t 5] 75 true, Og 77 .mv [.t 11] 75 true, Og 78 (.iadr 1) [.t 76, .t 77] 75 true, Og 79 .ld1 [.t 78] 75 true, Og 80 .mv [.t 5] 75 true, Og 81 (.ldn 2) [.t 3] 75 true, Og 82 .mv [.t 8] 75 true, Og 83 (.call 92) [.t 81, .t 82] 75 true, Og 84 (.fadr 1) [.t 2] 75 true, Og 85 .ld1 [.t 84] 75 true, Og 86 (.bin .mul) [.t 83, .t 85] 75 true, Og 87 (.fadr 2) [.t 10] 75 true, Og 88 .ld1 [.t 87] 75 true, Og 89 (.bin .add) [.t 86, .t 88] 75 true, Og 90 (.iadr 1) [.t 80, .t 89] 75 true, Og 91 .ld1 [.t 90] 75 true, Og 92 (.bin .eql) [.t 79, .t 91] 75 true, Ol 93 .pick [.t 75, .t 92, cb false]] (unB [0, 1, 0, 0, 12, 31, 63, 127, 127, 511, 1023, 2047, 4095, 8191, 16383, 16383, 65535, 131071, 16383, 16383, 16383, 1589247, 16383, 4210687, 16269311, 16383, 33570815, 133709823, 268189695, 536625151, 1073741823, 2147483647] 0) true true) (.cond (.t 93) (.seq (.reg [O1 94 .mv 7, O1 95 .mv 5, O1 96 .mv 11, O2 97 (.iadr 1) 95 96, O1 98 .ld1 97, O2 99 (.iadr 1) 94 98, Sl (.st 1) [.t 99, cb true]]) (.drw [O1 100 .mv 6, O1 101 .mv 5, O1 102 .mv 11, O2 103 (.iadr 1) 101 102, O1 104 .ld1 103, O1 105 .mv 6, O1 106 .mv 5, O1 107 .mv 11, O2 108 (.iadr 1) 106 107, O1 109 .ld1 108, O2 110 (.iadr 1) 105 109, O1 111 .ld1 110, O1 112 (.fadr 3) 10, O1 113 .ld1 112, O2 114 (.bin .or) 111 113, O2 115 (.iadr 1) 100 104, S2 (.st 1) 115 114] (unB [0, 0, 0, 6, 14, 0, 0, 0, 192, 448, 992, 2016, 0, 4096, 16352, 32767, 65535] 0) true true)) .skip))))) (.reg [O1 48 .mv 9, Ol 49 (.bin .add) [.t 48, ci 1], O1 9 .mv 49]))))))) (.reg [O1 41 .mv 8, Ol 42 (.bin .add) [.t 41, ci 1], O1 8 .mv 42])))))) (.seq (.seq (.reg [Ol 12 .mv [ci 0]]) (.block 4 (.loop (.seq (.seq (.reg [O1 116 .mv 12, O1 117 .mv 6, O1 118 .len 117, O2 119 (.bin .lss) 116 118]) (.cond (.t 119) .skip (.exit 4))) (.seq (.block 5 (.seq (.drw [O1 122 .mv 7, O1 123 .mv 12, O2 124 (.iadr 1) 122 123, O1 125 .ld1 124, O1 126 .mv 125, Og 127 .mv [.t 6] 126 true, Og 128 .mv [.t 12] 126 true, Og 129 (.iadr 1) [.t 127, .t 128] 126 true, Og 130 .ld1 [.t 129] 126 true, Og 131 (.fadr 3) [.t 2] 126 true, Og 132 .ld1 [.t 131] 126 true, Og 133 (.bin .shl) [ci 1, .t 132] 126 true, Og 134 (.bin .sub) [.t 133, ci 1] 126 true, Og 135 (.bin .eql) [.t 130, .t 134] 126 true, Ol 136 .pick [.t 126, .t 135, cb false]] (unB [0, 0, 3, 7, 15, 31, 31, 127, 255, 31, 543, 1567, 3615, 8191, 16383] 0) true true) (.cond (.t 136) (.seq (.reg [Ol 4 .mv [cb true]]) .ret) .skip))) (.reg [O1 120 .mv 12, Ol 121 (.bin .add) [.t 120, ci 1], O1 12 .mv 121])))))) (.seq (.reg [Ol 4 .mv [cb false]]) .ret))))))))
theorem b_spec_GenTakes : Body Try.prog 68 137 c_spec_GenTakes [(.t 4)] := body_mk Try.func68 (by kernel_rfl) (by decide)
def TakesG (g : GenD) (s l : List Int) : Prop := GenOk g ∧ wordOk s l g.letters = true ∧ Lives (ptsG g.states.toNat s l g.edges) (bitL g.start.toNat 31) (2 ^ g.sets.toNat - 1)
def InS (g : GenD) (s l : List Int) (C : List Int) (r : Int) (q i : Nat) : Prop := q < s.length + l.length ∧ i < g.edges.length ∧ (g.edges.getD i default).letter = letN s l q ∧ 0 ≤ r ∧
  C.getD (q * g.states.toNat + (g.edges.getD i default).src.toNat) 0 = r ∧ C.getD (nextN s l q * g.states.toNat + (g.edges.getD i default).dst.toNat) 0 = r
structure TkI (g : GenD) (s l : List Int) (C : List Int) (p j : Nat) (S : List Bool) (M : List Int) : Prop where
  ls : S.length = C.length
  lm : M.length = C.length
  pos : ∀ r, 0 ≤ M.getD r 0 ∧ M.getD r 0 < 2 ^ 31
  sm : ∀ r : Nat, r < C.length → (S.getD r false = true ↔ ∃ q i, Bef p j q i ∧ InS g s l C r q i)
  mb : ∀ r : Nat, r < C.length → ∀ b, (M.getD r 0).toNat.testBit b = true ↔ ∃ q i, Bef p j q i ∧ InS g s l C r q i ∧ (g.edges.getD i default).marks.toNat.testBit b = true
section
variable {g : GenD} {s l : List Int} {C : List Int} {p j : Nat} {S : List Bool} {M : List Int}
theorem bef_zero {q i : Nat} : ¬ Bef 0 0 q i := by unfold Bef; omega
theorem tk_start : TkI g s l C 0 0 (List.replicate C.length false) (List.replicate C.length 0) := by
  have e : ∀ r, (List.replicate C.length (0 : Int)).getD r 0 = 0 := fun r => by
    rw [List.getD_eq_getElem?_getD, List.getElem?_replicate]; split <;> rfl
  have e2 : ∀ r, (List.replicate C.length false).getD r false = false := fun r => by
    rw [List.getD_eq_getElem?_getD, List.getElem?_replicate]; split <;> rfl
  refine ⟨by simp, by simp, fun r => by rw [e]; decide, fun r _ => ?_, fun r _ b => ?_⟩
  · rw [e2]
    exact ⟨fun h => (by cases h), fun ⟨q, i, h, _⟩ => absurd h bef_zero⟩
  · rw [e]
    exact ⟨fun h => (by simp at h), fun ⟨q, i, h, _⟩ => absurd h bef_zero⟩
theorem TkI.next (h : TkI g s l C p j S M) (hj : g.edges.length ≤ j) : TkI g s l C (p + 1) 0 S M := by
  have key : ∀ q i r, InS g s l C r q i → (Bef p j q i ↔ Bef (p + 1) 0 q i) := by
    rintro q i r ⟨_, h2, _⟩
    unfold Bef
    by_cases hq : q = p
    · subst hq; constructor <;> intro <;> omega
    · constructor <;> intro <;> omega
  refine ⟨h.ls, h.lm, h.pos, fun r hr => (h.sm r hr).trans ?_, fun r hr b => (h.mb r hr b).trans ?_⟩
  · exact ⟨fun ⟨q, i, h1, h2⟩ => ⟨q, i, (key q i r h2).1 h1, h2⟩, fun ⟨q, i, h1, h2⟩ => ⟨q, i, (key q i r h2).2 h1, h2⟩⟩
  · exact ⟨fun ⟨q, i, h1, h2, h3⟩ => ⟨q, i, (key q i r h2).1 h1, h2, h3⟩, fun ⟨q, i, h1, h2, h3⟩ => ⟨q, i, (key q i r h2).2 h1, h2, h3⟩⟩
theorem TkI.skip (h : TkI g s l C p j S M) (hn : ∀ r, ¬ InS g s l C r p j) : TkI g s l C p (j + 1) S M := by
  refine ⟨h.ls, h.lm, h.pos, fun r hr => (h.sm r hr).trans ?_, fun r hr b => (h.mb r hr b).trans ?_⟩
  · refine ⟨fun ⟨q, i, h1, h2⟩ => ⟨q, i, bef_succ.2 (.inl h1), h2⟩, fun ⟨q, i, h1, h2⟩ => ⟨q, i, ?_, h2⟩⟩
    rcases bef_succ.1 h1 with h1 | ⟨rfl, rfl⟩
    · exact h1
    · exact absurd h2 (hn r)
  · refine ⟨fun ⟨q, i, h1, h2⟩ => ⟨q, i, bef_succ.2 (.inl h1), h2⟩, fun ⟨q, i, h1, h2, h3⟩ => ⟨q, i, ?_, h2, h3⟩⟩
    rcases bef_succ.1 h1 with h1 | ⟨rfl, rfl⟩
    · exact h1
    · exact absurd h2 (hn r)
theorem TkI.put (h : TkI g s l C p j S M) {z : Nat} (hz : z < C.length) (hin : InS g s l C z p j) {m : Nat} (hm : (g.edges.getD j default).marks.toNat = m) (hml : m < 2 ^ 31) :
    TkI g s l C p (j + 1) (S.set z true) (M.set z (((M.getD z 0).toNat ||| m : Nat) : Int)) := by
  have hp := h.pos z
  have hlt : (M.getD z 0).toNat ||| m < 2 ^ 31 := Nat.or_lt_two_pow (by omega) hml
  have hr : ∀ r : Int, InS g s l C r p j → r = z := fun r ⟨_, _, _, _, h1, _⟩ => by rw [← h1]; exact hin.2.2.2.2.1
  have hls := h.ls
  have hlm := h.lm
  have e1 : ∀ r, (S.set z true).getD r false = if z = r then true else S.getD r false := fun r => by
    rw [getD_setB]
    by_cases h1 : z = r
    · subst h1; rw [if_pos ⟨rfl, by omega⟩, if_pos rfl]
    · rw [if_neg (fun h => h1 h.1), if_neg h1]
  have e2 : ∀ r, (M.set z (((M.getD z 0).toNat ||| m : Nat) : Int)).getD r 0 = if z = r then (((M.getD z 0).toNat ||| m : Nat) : Int) else M.getD r 0 := fun r => by
    rw [Pl.getD_set]
    by_cases h1 : z = r
    · subst h1; rw [if_pos ⟨rfl, by omega⟩, if_pos rfl]
    · rw [if_neg (fun h => h1 h.1), if_neg h1]
  refine ⟨by simpa using hls, by simpa using hlm, fun r => ?_, fun r hrl => ?_, fun r hrl b => ?_⟩
  · rw [e2]; split
    · omega
    · exact h.pos r
  · rw [e1]
    by_cases hzr : z = r
    · subst hzr
      rw [if_pos rfl]
      exact ⟨fun _ => ⟨p, j, bef_succ.2 (.inr ⟨rfl, rfl⟩), hin⟩, fun _ => rfl⟩
    · rw [if_neg hzr, h.sm r hrl]
      refine ⟨fun ⟨q, i, h1, h2⟩ => ⟨q, i, bef_succ.2 (.inl h1), h2⟩, fun ⟨q, i, h1, h2⟩ => ⟨q, i, ?_, h2⟩⟩
      rcases bef_succ.1 h1 with h1 | ⟨rfl, rfl⟩
      · exact h1
      · have := hr _ h2; omega
  · rw [e2]
    by_cases hzr : z = r
    · subst hzr
      rw [if_pos rfl, Int.toNat_natCast, Nat.testBit_or, Bool.or_eq_true, h.mb z hrl]
      constructor
      · rintro (⟨q, i, h1, h2⟩ | h1)
        · exact ⟨q, i, bef_succ.2 (.inl h1), h2⟩
        · exact ⟨p, j, bef_succ.2 (.inr ⟨rfl, rfl⟩), hin, by rw [hm]; exact h1⟩
      · rintro ⟨q, i, h1, h2, h3⟩
        rcases bef_succ.1 h1 with h1 | ⟨rfl, rfl⟩
        · exact .inl ⟨q, i, h1, h2, h3⟩
        · exact .inr (by rw [← hm]; exact h3)
    · rw [if_neg hzr, h.mb r hrl]
      refine ⟨fun ⟨q, i, h1, h2⟩ => ⟨q, i, bef_succ.2 (.inl h1), h2⟩, fun ⟨q, i, h1, h2, h3⟩ => ⟨q, i, ?_, h2, h3⟩⟩
      rcases bef_succ.1 h1 with h1 | ⟨rfl, rfl⟩
      · exact h1
      · have := hr _ h2; omega
end
theorem length_ptsG {n : Nat} {s l : List Int} {es : List GEdgeD} : (ptsG n s l es).length = (s.length + l.length) * n := by simp [ptsG, mkG]
theorem gstart_lt {g : GenD} (hg : GenOk g) : g.start.toNat < 2 ^ g.states.toNat := by
  have hh := hg.1.2.2
  rw [show g.start = ((g.start.toNat : Nat) : Int) by omega] at hh
  exact Int.ofNat_lt.1 (by rw [Int.natCast_pow]; exact hh.2.2)
theorem beg_rch {g : GenD} (hg : GenOk g) {s l : List Int} (hl0 : 0 < l.length) {x : Nat} : Beg g s l x ↔ Rch (PA g s l) (· ∈ bitL g.start.toNat 31) x := by
  rw [beg_iff hg hl0]
  have e : (fun x => x < (s.length + l.length) * g.states.toNat ∧ AtS g (oneS (s.length + l.length) 0 g.start.toNat) x) = (· ∈ bitL g.start.toNat 31) := by
    funext x
    refine propext ?_
    have hs := gstart_lt hg
    have hst := hg.1.2.1
    unfold AtS
    rw [oneS_at, mem_bitL]
    constructor
    · rintro ⟨h1, h2⟩
      split at h2
      · rename_i hq
        have hb := bit_lt hs h2
        have := pt_eq (n := g.states.toNat) (x := x)
        rw [hq.1, Nat.zero_mul, Nat.zero_add] at this
        rw [this] at h2 hb
        exact ⟨by omega, h2⟩
      · simp at h2
    · rintro ⟨h1, h2⟩
      have hb := bit_lt hs h2
      have h3 : x / g.states.toNat = 0 := Nat.div_eq_of_lt hb
      have h4 : x % g.states.toNat = x := Nat.mod_eq_of_lt hb
      rw [if_pos ⟨h3, by omega⟩, h4]
      refine ⟨Nat.lt_of_lt_of_le hb ?_, h2⟩
      have := Nat.mul_le_mul_right g.states.toNat (show 1 ≤ s.length + l.length by omega)
      omega
  rw [e]
theorem edge_ix {g : GenD} {e : GEdgeD} (he : e ∈ g.edges) : ∃ i, i < g.edges.length ∧ g.edges.getD i default = e := by
  obtain ⟨i, hi, rfl⟩ := List.getElem_of_mem he
  exact ⟨i, hi, by rw [List.getD_eq_getElem?_getD, List.getElem?_eq_getElem hi]; rfl⟩
theorem pow_toNat {m k : Int} (h0 : 0 ≤ m) (h : m < 2 ^ k.toNat) : m.toNat < 2 ^ k.toNat := by
  rw [show m = ((m.toNat : Nat) : Int) by omega] at h
  exact Int.ofNat_lt.1 (by rw [Int.natCast_pow]; exact h)
theorem takes_of {g : GenD} (hg : GenOk g) {s l : List Int} (hl0 : 0 < l.length) {C : List Int} (hC : IsComps (PA g s l) (Beg g s l) ((s.length + l.length) * g.states.toNat) C) {S : List Bool} {M : List Int} (h : TkI g s l C (s.length + l.length) 0 S M) :
    (∃ r, r < C.length ∧ S.getD r false = true ∧ M.getD r 0 = 2 ^ g.sets.toNat - 1) ↔ Lives (ptsG g.states.toNat s l g.edges) (bitL g.start.toNat 31) (2 ^ g.sets.toNat - 1) := by
  have hBm := fun p q (h : Beg g s l p) (hm : Mut (PA g s l) p q) => beg_mut hg hl0 p q h hm.1
  have hgin : ∀ i, i < g.edges.length → GIn g (g.edges.getD i default) := fun i hi => gin hg hi
  have hCl := hC.1
  have hps : ∀ r, 0 ≤ M.getD r 0 := fun r => (h.pos r).1
  have hst := hg.1.2.1
  have hpow : ((2 ^ g.sets.toNat - 1 : Nat) : Int) = 2 ^ g.sets.toNat - 1 := by
    have := Nat.two_pow_pos g.sets.toNat
    rw [Int.natCast_sub (by omega), Int.natCast_pow]; rfl
  have hms : ∀ r, r < C.length → (M.getD r 0 = 2 ^ g.sets.toNat - 1 ↔ ∀ b, (2 ^ g.sets.toNat - 1).testBit b = true → (M.getD r 0).toNat.testBit b = true) := fun r hr => by
    rw [← hpow]
    constructor
    · intro he b hb
      rw [he, Int.toNat_natCast]; exact hb
    · intro hb
      have : (M.getD r 0).toNat = 2 ^ g.sets.toNat - 1 := bits_ext fun b => ⟨fun hh => ?_, hb b⟩
      · have := hps r; omega
      · obtain ⟨q, i, _, h2, h3⟩ := (h.mb r hr b).1 hh
        have := hgin i h2.2.1
        unfold GIn at this
        rw [Nat.testBit_two_pow_sub_one]
        exact decide_eq_true (bit_lt (pow_toNat this.2.2.2.1 this.2.2.2.2.2) h3)
  have hpt : ∀ r q i, InS g s l C r q i → q * g.states.toNat + (g.edges.getD i default).src.toNat < (s.length + l.length) * g.states.toNat ∧ nextN s l q * g.states.toNat + (g.edges.getD i default).dst.toNat < (s.length + l.length) * g.states.toNat ∧
      (nextN s l q * g.states.toNat + (g.edges.getD i default).dst.toNat, (g.edges.getD i default).marks) ∈ (ptsG g.states.toNat s l g.edges).getD (q * g.states.toNat + (g.edges.getD i default).src.toNat) [] := by
    rintro r q i ⟨h1, h2, h3, _⟩
    have hi := hgin i h2
    unfold GIn at hi
    refine ⟨pt_lt h1 (by omega), pt_lt (nextN_lt h1 hl0) (by omega), (step_pts hg).2 ?_⟩
    rw [pt_div (by omega), pt_mod (by omega)]
    exact ⟨h1, _, getD_mem' h2, h3, rfl, rfl, rfl⟩
  unfold Lives
  rw [length_ptsG, adj_pts hg]
  constructor
  · rintro ⟨r, hr, h1, h2⟩
    obtain ⟨q, i, _, hin⟩ := (h.sm r hr).1 h1
    obtain ⟨g1, g2, g3⟩ := hpt _ q i hin
    obtain ⟨_, _, _, _, c1, c2⟩ := hin
    have hb := (hC.begun g1).1 (by rw [c1]; omega)
    refine ⟨_, g1, (beg_rch hg hl0).1 hb, ⟨_, g3, (hC.eq g1 g2 hb hBm).1 (c1.trans c2.symm)⟩, fun b hbit => ?_⟩
    obtain ⟨q', i', _, hin', hbit'⟩ := (h.mb r hr b).1 ((hms r hr).1 h2 b hbit)
    obtain ⟨k1, k2, k3⟩ := hpt _ q' i' hin'
    obtain ⟨_, _, _, _, d1, d2⟩ := hin'
    exact ⟨_, _, k3, (hC.eq g1 k1 hb hBm).1 (c1.trans d1.symm), (hC.eq g1 k2 hb hBm).1 (c1.trans d2.symm), hbit'⟩
  · rintro ⟨p, hp, hr, ⟨⟨y, m⟩, hs, hm⟩, hall⟩
    have hb := (beg_rch hg hl0).2 hr
    obtain ⟨z, hz, c1, c2, c3⟩ := (hC.2 p hp).1 hb
    have key : ∀ q y m, (y, m) ∈ (ptsG g.states.toNat s l g.edges).getD q [] → Mut (PA g s l) p q → Mut (PA g s l) p y → ∃ i, InS g s l C z (q / g.states.toNat) i ∧ (g.edges.getD i default).marks = m := by
      intro q y m hst hpq hpy
      obtain ⟨h1, e, he, h2, h3, h4, h5⟩ := (step_pts hg).1 hst
      obtain ⟨i, hi, rfl⟩ := edge_ix he
      have hi' := hgin i hi
      unfold GIn at hi'
      have hql := pt_lt (n := g.states.toNat) (v := q % g.states.toNat) h1 (by omega)
      rw [pt_eq] at hql
      have hyl := pt_lt (n := g.states.toNat) (v := (g.edges.getD i default).dst.toNat) (nextN_lt h1 hl0) (by omega)
      rw [← h4] at hyl
      refine ⟨i, ⟨h1, hi, h2, by omega, ?_, ?_⟩, h5.symm⟩
      · rw [h3, pt_eq, ← (hC.eq hp hql hb hBm).2 hpq]; exact c1
      · rw [← h4, ← (hC.eq hp hyl hb hBm).2 hpy]; exact c1
    have hbef : ∀ q i, q < s.length + l.length → Bef (s.length + l.length) 0 q i := fun q i hq => .inl hq
    refine ⟨z, by omega, (h.sm z (by omega)).2 ?_, (hms z (by omega)).2 fun b hbit => (h.mb z (by omega) b).2 ?_⟩
    · obtain ⟨i, hi, _⟩ := key p y m hs Mut.refl hm
      exact ⟨_, i, hbef _ _ hi.1, hi⟩
    · obtain ⟨q, ⟨y', m'⟩, hs', hpq, hpy, hb'⟩ := hall b hbit
      obtain ⟨i, hi, rfl⟩ := key q y' m' hs' hpq hpy
      exact ⟨_, i, hbef _ _ hi.1, hi, hb'⟩
theorem bools_rep {n : Nat} : List.replicate ((n : Nat) : Int).toNat [AV.bool false] = bools (List.replicate n false) := by simp [bools]
theorem ints_rep0 {n : Nat} : List.replicate ((n : Nat) : Int).toNat [AV.int .i64 0] = ints (List.replicate n 0) := by simp [ints]
theorem let_ok {s l : List Int} {k : Int} (h : wordOk s l k = true) : LetOk s l ∧ s.length ≤ 40 ∧ l.length ≤ 40 ∧ 0 < l.length := by
  unfold wordOk at h
  simp only [Bool.and_eq_true, decide_eq_true_eq] at h
  obtain ⟨⟨⟨⟨h1, h2⟩, h3⟩, h4⟩, h5⟩ := h
  refine ⟨fun p hp => ?_, h2, by omega, by omega⟩
  have key : ∀ (l : List Int), lettersB l k = true → ∀ i, i < l.length → 0 ≤ l.getD i 0 ∧ l.getD i 0 < 8 := fun l hl i hi => by
    simp only [lettersB, List.all_eq_true, decide_eq_true_eq] at hl
    have hm : l.getD i 0 ∈ l := by rw [List.getD_eq_getElem?_getD, List.getElem?_eq_getElem hi]; exact List.getElem_mem hi
    have := hl _ hm
    omega
  unfold letN
  split
  · rename_i hh; exact key s h4 p hh
  · exact key l h5 _ (by omega)
theorem RComps_eq {xs : List AV} {g : GenD} {s l : List Int} (hx : xs = [.agg (genRow g), wordV s l]) (hg : GenOk g) (h0 : 0 < g.states) (hw : LetOk s l) (h1 : s.length ≤ 100) (h2 : l.length ≤ 100) (h3 : 0 < l.length) :
  RComps xs (.ref 0 0 ((s.length + l.length) * g.states.toNat)) [.arr 1 (ints (compsL (PA g s l) (Beg g s l) ((s.length + l.length) * g.states.toNat)))] := ⟨g, s, l, hx, hg, h0, hw, h1, h2, h3, rfl, rfl⟩
def RTakesG (xs : List AV) (r : AV) (objs : List AObj) : Prop := ∃ (g : GenD) (s l : List Int) (b : Bool), xs = [.agg (genRow g), wordV s l] ∧ (b = true ↔ TakesG g s l) ∧ r = .bool b ∧ objs = []
set_option maxHeartbeats 8000000 in
theorem s_spec_GenTakes : PureSound Try.prog 68 RTakesG := by
  have hR : Rely Try.prog (ctxOf [(69, .pure RGenOk), (47, .pure RWordOk), (99, .pure RComps), (91, .pure RPlacesS), (93, .pure RL3At), (92, .pure RAfter)]) :=
    rely_cons b_spec_GenOk.has s_spec_GenOk (rely_cons b_spec_WordOk.has s_spec_WordOk (rely_cons b_spec_l6Comps.has s_spec_l6Comps (rely_cons b_spec_l6Places.has s_spec_l6Places (rely_cons b_spec_l3At.has s_spec_l3At (rely_cons b_spec_l6After.has s_spec_l6After (rely_nil mixed))))))
  refine pure_of_aw b_spec_GenTakes ?_
  rintro xs r objs ⟨g, s, l, b, rfl, hb0, rfl, rfl⟩ -
  refine ⟨by simp, vc2_sound hR _ _ _ _ _ ?_⟩
  have hno : ¬ TakesG g s l → b = false := fun h => Bool.eq_false_iff.2 fun hb => h (hb0.1 hb)
  by_cases hg : GenOk g
  rotate_left
  · obtain rfl := hno fun h => hg h.1
    conv => whnf
    repeat' ((first | contradiction | (refine And.intro (fun hb => ?_) (fun hb => ?_) <;> first | contradiction | ((try simp only [SB, reduceCtorEq] at hb); try (exfalso; first | contradiction | omega))) | refine G2 ?_ | rw [ints_at (by omega)] | rw [ints_at0 (by omega)] | rw [ints_at' (by omega) (by omega)] | refine G1 ?_ | refine ⟨_, _, RGenOk_mk, ?_⟩ | refine ⟨_, _, RWordOk_mk, ?_⟩ | fail) <;> conv => whnf)
    refine ⟨.inl rfl, ?_⟩
    conv => whnf
    refine ⟨[], ⟨rfl, trivial⟩, ?_, rfl, rfl⟩
    conv => whnf
    left
    conv => lhs; whnf
  cases hw : wordOk s l g.letters
  · obtain rfl := hno fun h => by have := h.2.1; rw [hw] at this; cases this
    conv => whnf
    repeat' ((first | contradiction | (refine And.intro (fun hb => ?_) (fun hb => ?_) <;> first | contradiction | ((try simp only [SB, reduceCtorEq] at hb); try (exfalso; first | contradiction | omega))) | refine G2 ?_ | rw [ints_at (by omega)] | rw [ints_at0 (by omega)] | rw [ints_at' (by omega) (by omega)] | refine G1 ?_ | refine ⟨_, _, RGenOk_mk, ?_⟩ | refine ⟨_, _, ⟨s, l, g.letters, rfl, congrArg AV.bool hw.symm, rfl⟩, ?_⟩ | fail) <;> conv => whnf)
    refine ⟨.inl rfl, ?_⟩
    conv => whnf
    refine ⟨[], ⟨rfl, trivial⟩, ?_, rfl, rfl⟩
    conv => whnf
    left
    conv => lhs; whnf
  obtain ⟨hlo, hs, hl, hl0⟩ := let_ok hw
  by_cases h0 : g.states = 0
  · obtain rfl := hno fun h => by
      obtain ⟨_, _, p, hp, _⟩ := h
      rw [length_ptsG, h0] at hp
      simp at hp
    conv => whnf
    repeat' ((first | contradiction | (refine And.intro (fun hb => ?_) (fun hb => ?_) <;> first | contradiction | ((try simp only [SB, reduceCtorEq] at hb); try (exfalso; first | contradiction | omega))) | refine G2 ?_ | rw [ints_at (by omega)] | rw [ints_at0 (by omega)] | rw [ints_at' (by omega) (by omega)] | refine G1 ?_ | refine ⟨_, _, RGenOk_mk, ?_⟩ | refine ⟨_, _, ⟨s, l, g.letters, rfl, congrArg AV.bool hw.symm, rfl⟩, ?_⟩ | fail) <;> conv => whnf)
    refine ⟨.inl rfl, ?_⟩
    conv => whnf
    refine ⟨[], ⟨rfl, trivial⟩, ?_, rfl, rfl⟩
    conv => whnf
    left
    conv => lhs; whnf
  have hst := hg.1.2.1
  have hNN : (s.length + l.length) * g.states.toNat ≤ 80 * 31 := Nat.mul_le_mul (by omega) (by omega)
  have hC := isComps_L (PA g s l) (Beg g s l) ((s.length + l.length) * g.states.toNat)
  have hto := fun S M h => takes_of hg hl0 hC (S := S) (M := M) h
  have hrc : ∀ xs, xs = [.agg (genRow g), wordV s l] → RComps xs (.ref 0 0 ((s.length + l.length) * g.states.toNat)) [.arr 1 (ints (compsL (PA g s l) (Beg g s l) ((s.length + l.length) * g.states.toNat)))] := fun xs hx => RComps_eq hx hg (by omega) hlo (by omega) (by omega) hl0
  have hCl := hC.1
  have hel := length_gedgeRows g.edges
  have hel2 := hg.2.2.1
  have hptl : ∀ p v, p < s.length + l.length → v < g.states.toNat → p * g.states.toNat + v < (s.length + l.length) * g.states.toNat := fun p v h1 h2 => pt_lt h1 h2
  generalize hCC : compsL (PA g s l) (Beg g s l) ((s.length + l.length) * g.states.toNat) = C at *
  generalize hM : (s.length + l.length) * g.states.toNat = M at *
  have hCi := (length_ints C).trans hCl
  conv => whnf
  repeat' ((first | contradiction | (refine And.intro (fun hb => ?_) (fun hb => ?_) <;> first | contradiction | ((try simp only [SB, reduceCtorEq] at hb); try (exfalso; first | contradiction | omega))) | refine G2 ?_ | rw [ints_at (by omega)] | rw [ints_at0 (by omega)] | rw [ints_at' (by omega) (by omega)] | refine G1 ?_ | refine ⟨_, _, RGenOk_mk, ?_⟩ | refine ⟨_, _, ⟨s, l, g.letters, rfl, congrArg AV.bool hw.symm, rfl⟩, ?_⟩ | refine ⟨_, _, hrc _ rfl, ?_⟩ | fail) <;> conv => whnf)
  clear hb
  refine Lp.intro (α := Nat × List Bool × List Int) (fun c => TkI g s l C c.1 0 c.2.1 c.2.2 ∧ c.1 ≤ s.length + l.length) (fun c => s.length + l.length - c.1)
    (fun c => [(2, .rptr (genRow g) 0), (3, wordP s l), (5, .val (ints C)), (6, .ref 0 0 M), (7, .ref 1 0 M), (8, .int .i64 c.1)]) (fun c => [some (.arr 1 (ints c.2.2)), some (.arr 1 (bools c.2.1))]) ?_ ?_
  · refine ⟨(0, List.replicate C.length false, List.replicate C.length 0), ⟨tk_start, Nat.zero_le _⟩, [some 3, some 4], rfl, rfl, And.intro (And.intro rfl ?_) (And.intro (And.intro rfl ?_) trivial), ?_⟩
    · rw [hCl]; exact ints_rep0
    · rw [hCl]; exact bools_rep
    · exact ⟨.inr rfl, .inr rfl, .inr (snap_all rfl hCi), rfl, rfl, .inl rfl, trivial⟩
  rintro ⟨p, S, MM⟩ ⟨hI, hp⟩
  dsimp only at hI hp ⊢
  refine vc2_sound hR _ _ _ _ _ ?_
  by_cases hlt : p < s.length + l.length
  · conv => whnf
    repeat' ((first | contradiction | (refine And.intro (fun hb => ?_) (fun hb => ?_) <;> first | contradiction | ((try simp only [SB, reduceCtorEq] at hb); try (exfalso; first | contradiction | omega))) | refine G2 ?_ | rw [ints_at (by omega)] | rw [ints_at0 (by omega)] | rw [ints_at' (by omega) (by omega)] | refine G1 ?_ | refine ⟨_, _, RPlacesS_eq rfl (by omega) (by omega), ?_⟩ | fail) <;> conv => whnf)
    refine Lp.intro (α := Nat × List Bool × List Int) (fun c => TkI g s l C p c.1 c.2.1 c.2.2 ∧ c.1 ≤ g.edges.length) (fun c => g.edges.length - c.1)
      (fun c => [(2, .rptr (genRow g) 0), (3, wordP s l), (5, .val (ints C)), (6, .ref 0 0 M), (7, .ref 1 0 M), (8, .int .i64 p), (9, .int .i64 c.1)]) (fun c => [some (.arr 1 (ints c.2.2)), some (.arr 1 (bools c.2.1))]) ?_ ?_
    · refine ⟨(0, S, MM), ⟨hI, Nat.zero_le _⟩, [some 0, some 1], rfl, rfl, And.intro (And.intro rfl rfl) (And.intro (And.intro rfl rfl) trivial), ?_⟩
      exact ⟨.inl rfl, .inl rfl, .inl rfl, rfl, rfl, .inl rfl, .inl rfl, trivial⟩
    clear hI MM S
    rintro ⟨i, S, MM⟩ ⟨hI, hi⟩
    dsimp only at hI hi ⊢
    have hSl := hI.ls.trans hCl
    have hMl := hI.lm.trans hCl
    have hMi := (length_ints MM).trans hMl
    have hSi := (length_bools S).trans hSl
    refine vc2_sound hR _ _ _ _ _ ?_
    by_cases hil : i < g.edges.length
    · have hin := gin hg hil
      have hat := gedge_at hil
      have hnx := nextN_lt hlt hl0
      unfold GIn at hin
      have hXl := hptl p (g.edges.getD i default).src.toNat hlt (by omega)
      have hYl := hptl (nextN s l p) (g.edges.getD i default).dst.toNat hnx (by omega)
      have hX : IntKind.i64.wrap (((p : Nat) : Int) * g.states) = ((p * g.states.toNat : Nat) : Int) := by
        rw [show ((p : Nat) : Int) * g.states = ((p * g.states.toNat : Nat) : Int) by rw [Int.natCast_mul, Int.toNat_of_nonneg hst.1]]
        exact IntWalk.i64_in _ (by omega)
      have hY : IntKind.i64.wrap (((nextN s l p : Nat) : Int) * g.states) = ((nextN s l p * g.states.toNat : Nat) : Int) := by
        rw [show ((nextN s l p : Nat) : Int) * g.states = ((nextN s l p * g.states.toNat : Nat) : Int) by rw [Int.natCast_mul, Int.toNat_of_nonneg hst.1]]
        exact IntWalk.i64_in _ (by omega)
      have hskip : ∀ r, InS g s l C r p i → (g.edges.getD i default).letter = letN s l p ∧ 0 ≤ C.getD (p * g.states.toNat + (g.edges.getD i default).src.toNat) 0 ∧
        C.getD (p * g.states.toNat + (g.edges.getD i default).src.toNat) 0 = C.getD (nextN s l p * g.states.toNat + (g.edges.getD i default).dst.toNat) 0 := fun r ⟨_, _, h3, h4, h5, h6⟩ => ⟨h3, by omega, h5.trans h6.symm⟩
      have hput : ∀ z : Nat, z < C.length → C.getD (p * g.states.toNat + (g.edges.getD i default).src.toNat) 0 = z → (g.edges.getD i default).letter = letN s l p →
        C.getD (p * g.states.toNat + (g.edges.getD i default).src.toNat) 0 = C.getD (nextN s l p * g.states.toNat + (g.edges.getD i default).dst.toNat) 0 → TkI g s l C p (i + 1) (S.set z true) (MM.set z (((MM.getD z 0).toNat ||| (g.edges.getD i default).marks.toNat : Nat) : Int)) :=
        fun z hz h1 h2 h3 => hI.put hz ⟨hlt, hil, h2, by omega, h1, by omega⟩ rfl (by omega)
      have hkeep : (∀ r, ¬ InS g s l C r p i) → TkI g s l C p (i + 1) S MM := fun h => hI.skip h
      have hpos := hI.pos
      have hCX : ∀ X, X < M → C.getD X 0 < 0 ∨ ∃ z : Nat, z < M ∧ C.getD X 0 = z := fun X hX => by
        by_cases hbx : Beg g s l X
        · obtain ⟨z, h1, h2, _⟩ := (hC.2 X hX).1 hbx
          exact .inr ⟨z, h1, h2⟩
        · have := (hC.2 X hX).2 hbx
          exact .inl (by omega)
      have hcx := hCX _ hXl
      generalize g.edges.getD i default = e at *
      obtain ⟨X, hXX⟩ : ∃ X, p * g.states.toNat + e.src.toNat = X := ⟨_, rfl⟩
      obtain ⟨Y, hYY⟩ : ∃ Y, nextN s l p * g.states.toNat + e.dst.toNat = Y := ⟨_, rfl⟩
      rw [hXX] at hXl hskip hput hcx
      rw [hYY] at hYl hskip hput
      have hXi : ((p * g.states.toNat : Nat) : Int) + e.src = ((X : Nat) : Int) := by omega
      have hYi : ((nextN s l p * g.states.toNat : Nat) : Int) + e.dst = ((Y : Nat) : Int) := by omega
      generalize p * g.states.toNat = pn at *
      generalize nextN s l p * g.states.toNat = qn at *
      have aX := ints_at (xs := C) (i := X) (by omega)
      have aY := ints_at (xs := C) (i := Y) (by omega)
      rcases hcx with hneg | ⟨z, hz, hzz⟩
      · generalize C.getD X 0 = cx at *
        conv => whnf
        repeat' ((first | contradiction | (refine And.intro (fun hb => ?_) (fun hb => ?_) <;> first | contradiction | ((try simp only [SB, reduceCtorEq] at hb); try (exfalso; first | contradiction | omega))) | rw [hat] | rw [hXi] | rw [aX] | refine G2 ?_ | rw [ints_at (by omega)] | rw [ints_at0 (by omega)] | rw [ints_at' (by omega) (by omega)] | refine G1 ?_ | refine ⟨_, hX, ?_⟩ | refine ⟨_, _, RL3At_eq rfl (by omega) (by omega) hlt, ?_⟩ | fail) <;> conv => whnf)
        all_goals
          refine ⟨(i + 1, S, MM), ⟨hkeep fun r hr => ?_, hil⟩, by dsimp only; omega, [some 0, some 1], rfl, rfl, And.intro (And.intro rfl rfl) (And.intro (And.intro rfl rfl) trivial), ?_⟩
          · have := hskip r hr; omega
          · exact ⟨.inl rfl, .inl rfl, .inl rfl, rfl, rfl, .inl rfl, .inl rfl, trivial⟩
      · rw [hzz] at aX hput hskip
        generalize C.getD Y 0 = cy at *
        have hor := or_val (X := (MM.getD z 0).toNat) (Y := e.marks.toNat) (by have := hpos z; omega) (by omega)
        rw [Int.toNat_of_nonneg (hpos z).1, Int.toNat_of_nonneg hin.2.2.2.1] at hor
        have aM := ints_at0 (xs := MM) (i := z) (by omega)
        have aS := bools_at0 (l := S) (i := z) (by omega)
        conv => whnf
        repeat' ((first | contradiction | (refine And.intro (fun hb => ?_) (fun hb => ?_) <;> first | contradiction | ((try simp only [SB, reduceCtorEq] at hb); try (exfalso; first | contradiction | omega))) | rw [hat] | rw [hXi] | rw [hYi] | rw [aX] | rw [aY] | rw [aM] | rw [aS] | refine G2 ?_ | rw [ints_at (by omega)] | rw [ints_at0 (by omega)] | rw [ints_at' (by omega) (by omega)] | refine G1 ?_ | refine ⟨_, hX, ?_⟩ | refine ⟨_, hY, ?_⟩ | refine ⟨_, _, RL3At_eq rfl (by omega) (by omega) hlt, ?_⟩ | refine ⟨_, _, RAfter_eq rfl (by omega) (by omega) hlt, ?_⟩ | fail) <;> conv => whnf)
        · refine ⟨(i + 1, S.set z true, _), ⟨hput z (by omega) rfl (by assumption) (by assumption), hil⟩, by dsimp only; omega, [some 0, some 1], rfl, rfl, And.intro (And.intro rfl ?_) (And.intro (And.intro rfl bools_set) trivial), ?_⟩
          · rw [← ints_set]
            exact congrArg (fun v => (ints MM).set (0 + ((z : Nat) : Int).toNat) [AV.int .i64 v]) hor
          · exact ⟨.inl rfl, .inl rfl, .inl rfl, rfl, rfl, .inl rfl, .inl rfl, trivial⟩
        all_goals
          refine ⟨(i + 1, S, MM), ⟨hkeep fun r hr => ?_, hil⟩, by dsimp only; omega, [some 0, some 1], rfl, rfl, And.intro (And.intro rfl rfl) (And.intro (And.intro rfl rfl) trivial), ?_⟩
          · have := hskip r hr; omega
          · exact ⟨.inl rfl, .inl rfl, .inl rfl, rfl, rfl, .inl rfl, .inl rfl, trivial⟩
    · conv => whnf
      repeat' ((first | contradiction | (refine And.intro (fun hb => ?_) (fun hb => ?_) <;> first | contradiction | ((try simp only [SB, reduceCtorEq] at hb); try (exfalso; first | contradiction | omega))) | refine G2 ?_ | rw [ints_at (by omega)] | rw [ints_at0 (by omega)] | rw [ints_at' (by omega) (by omega)] | refine G1 ?_ | fail) <;> conv => whnf)
      refine ⟨(p + 1, S, MM), ⟨hI.next (by omega), hlt⟩, by dsimp only; omega, [some 0, some 1], rfl, rfl, And.intro (And.intro rfl rfl) (And.intro (And.intro rfl rfl) trivial), ?_⟩
      exact ⟨.inl rfl, .inl rfl, .inl rfl, rfl, rfl, .inl rfl, trivial⟩
  · obtain rfl : p = s.length + l.length := by omega
    have hSl := hI.ls.trans hCl
    have hMl := hI.lm.trans hCl
    have hMi := (length_ints MM).trans hMl
    have hSi := (length_bools S).trans hSl
    have hfin := hto _ _ hI
    have hsets := hg.2.1
    conv => whnf
    repeat' ((first | contradiction | (refine And.intro (fun hb => ?_) (fun hb => ?_) <;> first | contradiction | ((try simp only [SB, reduceCtorEq] at hb); try (exfalso; first | contradiction | omega))) | refine G2 ?_ | rw [ints_at (by omega)] | rw [ints_at0 (by omega)] | rw [ints_at' (by omega) (by omega)] | refine G1 ?_ | refine ⟨_, _, RPlacesS_eq rfl (by omega) (by omega), ?_⟩ | fail) <;> conv => whnf)
    refine Lp.intro (α := Nat) (fun r => r ≤ M ∧ ∀ k, k < r → ¬ (S.getD k false = true ∧ MM.getD k 0 = 2 ^ g.sets.toNat - 1)) (fun r => M - r)
      (fun r => [(2, .rptr (genRow g) 0), (6, .ref 0 0 M), (7, .ref 1 0 M), (12, .int .i64 r)]) (fun c => [some (.arr 1 (ints MM)), some (.arr 1 (bools S))]) ?_ ?_
    · refine ⟨0, ⟨Nat.zero_le _, fun k hk => by omega⟩, [some 0, some 1], rfl, rfl, And.intro (And.intro rfl rfl) (And.intro (And.intro rfl rfl) trivial), ?_⟩
      exact ⟨.inl rfl, rfl, rfl, .inl rfl, trivial⟩
    rintro r ⟨hr, hall⟩
    refine vc2_sound hR _ _ _ _ _ ?_
    by_cases hrl : r < M
    · have aM := ints_at0 (xs := MM) (i := r) (by omega)
      have aS := bools_at0 (l := S) (i := r) (by omega)
      conv => whnf
      repeat' ((first | contradiction | (refine And.intro (fun hb => ?_) (fun hb => ?_) <;> first | contradiction | ((try simp only [SB, reduceCtorEq] at hb); try (exfalso; first | contradiction | omega))) | rw [aM] | rw [aS] | refine G2 ?_ | rw [ints_at (by omega)] | rw [ints_at0 (by omega)] | rw [ints_at' (by omega) (by omega)] | refine G1 ?_ | refine ⟨_, mask_in (by omega) (by omega), ?_⟩ | fail) <;> conv => whnf)
      · refine ⟨.inl rfl, ?_⟩
        conv => whnf
        refine ⟨[], ⟨rfl, trivial⟩, ?_, rfl, rfl⟩
        conv => whnf
        left
        conv => lhs; whnf
        refine congrArg AV.bool (Eq.symm (hb0.2 ⟨hg, hw, hfin.1 ⟨r, by omega, ?_, ?_⟩⟩)) <;> assumption
      all_goals
        refine ⟨r + 1, ⟨hrl, fun k hk => ?_⟩, by omega, [some 0, some 1], rfl, rfl, And.intro (And.intro rfl rfl) (And.intro (And.intro rfl rfl) trivial), ?_⟩
        · by_cases hkr : k = r
          · subst hkr; intro hh; simp_all
          · exact hall k (by omega)
        · exact ⟨.inl rfl, rfl, rfl, .inl rfl, trivial⟩
    · conv => whnf
      repeat' ((first | contradiction | (refine And.intro (fun hb => ?_) (fun hb => ?_) <;> first | contradiction | ((try simp only [SB, reduceCtorEq] at hb); try (exfalso; first | contradiction | omega))) | refine G2 ?_ | rw [ints_at (by omega)] | rw [ints_at0 (by omega)] | rw [ints_at' (by omega) (by omega)] | refine G1 ?_ | fail) <;> conv => whnf)
      refine ⟨.inl rfl, ?_⟩
      conv => whnf
      refine ⟨[], ⟨rfl, trivial⟩, ?_, rfl, rfl⟩
      conv => whnf
      left
      conv => lhs; whnf
      refine congrArg AV.bool (Eq.symm (hno fun ht => ?_))
      obtain ⟨k, h1, h2, h3⟩ := hfin.2 ht.2.2
      exact hall k (by omega) ⟨h2, h3⟩
def placeN (s l : List Int) : Nat → Nat
  | 0 => 0
  | i + 1 => nextN s l (placeN s l i)
def seqN (s l : List Int) (i : Nat) : Int := letN s l (placeN s l i)
theorem placeN_lt {s l : List Int} (hl : 0 < l.length) : ∀ i, placeN s l i < s.length + l.length
  | 0 => by show 0 < _; omega
  | i + 1 => nextN_lt (placeN_lt hl i) hl
structure Run (g : GenD) (w : Nat → Int) (q : Nat → Nat) (e : Nat → GEdgeD) : Prop where
  start : g.start.toNat.testBit (q 0) = true
  edge : ∀ i, e i ∈ g.edges
  letter : ∀ i, (e i).letter = w i
  src : ∀ i, (e i).src.toNat = q i
  dst : ∀ i, (e i).dst.toNat = q (i + 1)
  mark : ∀ b, b < g.sets.toNat → ∀ i, ∃ j, i ≤ j ∧ (e j).marks.toNat.testBit b = true
theorem lives_lives {G : GraphD} {src : List Nat} {all : Nat} : Lives G src all ↔ LivesR (fun x y m => (y, m) ∈ G.getD x []) (· ∈ src) all := by
  have hA : AdjR (fun x y m => (y, m) ∈ G.getD x []) = Adj G := rfl
  have hp : ∀ {p y : Nat} {m : Int}, (y, m) ∈ G.getD p [] → p < G.length := fun {p y m} h => by
    refine Classical.byContradiction fun hn => ?_
    rw [List.getD_eq_getElem?_getD, List.getElem?_eq_none (by omega)] at h
    simp at h
  unfold Lives LivesR
  rw [hA]
  constructor
  · rintro ⟨p, _, h1, ⟨⟨y, m⟩, h2, h3⟩, h4⟩
    refine ⟨p, h1, ⟨y, m, h2, h3⟩, fun b hb => ?_⟩
    obtain ⟨q, ⟨y, m⟩, g⟩ := h4 b hb
    exact ⟨q, y, m, g⟩
  · rintro ⟨p, h1, ⟨y, m, h2, h3⟩, h4⟩
    refine ⟨p, hp h2, h1, ⟨(y, m), h2, h3⟩, fun b hb => ?_⟩
    obtain ⟨q, y, m, g⟩ := h4 b hb
    exact ⟨q, (y, m), g⟩
theorem run_iff {g : GenD} (hg : GenOk g) {s l : List Int} (hl0 : 0 < l.length) : Lives (ptsG g.states.toNat s l g.edges) (bitL g.start.toNat 31) (2 ^ g.sets.toNat - 1) ↔ ∃ q e, Run g (seqN s l) q e := by
  have hst := hg.1.2.1
  have hfin : ∀ x y m, (y, m) ∈ (ptsG g.states.toNat s l g.edges).getD x [] → x < (s.length + l.length) * g.states.toNat := fun x y m h => by
    obtain ⟨h1, e, he, h2, h3, _⟩ := (step_pts hg).1 h
    have hi := gmem hg he
    unfold GIn at hi
    have := pt_lt (n := g.states.toNat) (v := x % g.states.toNat) h1 (by omega)
    rwa [pt_eq] at this
  have hbit : ∀ b, (2 ^ g.sets.toNat - 1).testBit b = true ↔ b < g.sets.toNat := fun b => by
    rw [Nat.testBit_two_pow_sub_one, decide_eq_true_eq]
  rw [lives_lives, lives_iff hfin]
  constructor
  · rintro ⟨x, m, h⟩
    have hpl : ∀ i, x i / g.states.toNat = placeN s l i := fun i => by
      induction i with
      | zero =>
        have hb := bit_lt (gstart_lt hg) (mem_bitL.1 h.start).2
        exact Nat.div_eq_of_lt hb
      | succ i ih =>
        obtain ⟨h1, e, he, h2, h3, h4, h5⟩ := (step_pts hg).1 (h.step i)
        have hi := gmem hg he
        unfold GIn at hi
        rw [h4, pt_div (by omega), ih]
        rfl
    have hex : ∀ i, ∃ e, e ∈ g.edges ∧ e.letter = seqN s l i ∧ e.src.toNat = x i % g.states.toNat ∧ e.dst.toNat = x (i + 1) % g.states.toNat ∧ m i = e.marks := fun i => by
      obtain ⟨h1, e, he, h2, h3, h4, h5⟩ := (step_pts hg).1 (h.step i)
      have hi := gmem hg he
      unfold GIn at hi
      refine ⟨e, he, ?_, h3, ?_, h5⟩
      · rw [h2, hpl]; rfl
      · rw [h4, pt_mod (by omega)]
    obtain ⟨e, he⟩ := Classical.axiomOfChoice hex
    refine ⟨fun i => x i % g.states.toNat, e, ⟨?_, fun i => (he i).1, fun i => (he i).2.1, fun i => (he i).2.2.1, fun i => (he i).2.2.2.1, fun b hb i => ?_⟩⟩
    · have hs := mem_bitL.1 h.start
      have hb := bit_lt (gstart_lt hg) hs.2
      show g.start.toNat.testBit (x 0 % g.states.toNat) = true
      rw [Nat.mod_eq_of_lt hb]
      exact hs.2
    · obtain ⟨j, hj, hm⟩ := h.mark b ((hbit b).2 hb) i
      refine ⟨j, hj, ?_⟩
      rw [← (he j).2.2.2.2]; exact hm
  · rintro ⟨q, e, h⟩
    have hq : ∀ i, q i < g.states.toNat := fun i => by
      have hi := gmem hg (h.edge i)
      unfold GIn at hi
      have := h.src i
      omega
    refine ⟨fun i => placeN s l i * g.states.toNat + q i, fun i => (e i).marks, ⟨?_, fun i => (step_pts hg).2 ?_, fun b hb i => h.mark b ((hbit b).1 hb) i⟩⟩
    · show placeN s l 0 * g.states.toNat + q 0 ∈ bitL g.start.toNat 31
      rw [show placeN s l 0 = 0 from rfl, Nat.zero_mul, Nat.zero_add, mem_bitL]
      have := hq 0
      exact ⟨by omega, h.start⟩
    · rw [pt_div (hq i), pt_mod (hq i)]
      refine ⟨placeN_lt hl0 i, e i, h.edge i, h.letter i, h.src i, ?_, rfl⟩
      rw [h.dst i]; rfl
theorem takesG_iff {g : GenD} {s l : List Int} : TakesG g s l ↔ GenOk g ∧ wordOk s l g.letters = true ∧ ∃ q e, Run g (seqN s l) q e := by
  unfold TakesG
  constructor
  · rintro ⟨h1, h2, h3⟩
    exact ⟨h1, h2, (run_iff h1 (let_ok h2).2.2.2).1 h3⟩
  · rintro ⟨h1, h2, h3⟩
    exact ⟨h1, h2, (run_iff h1 (let_ok h2).2.2.2).2 h3⟩
theorem succ_mod {k n : Nat} (hn : 0 < n) : (k + 1) % n = if k % n + 1 = n then 0 else k % n + 1 := by
  have h1 := Nat.div_add_mod k n
  have h2 := Nat.mod_lt k hn
  have h3 : k + 1 = n * (k / n) + (k % n + 1) := by omega
  rw [h3, Nat.mul_add_mod]
  split
  · rename_i h
    rw [h, Nat.mod_self]
  · exact Nat.mod_eq_of_lt (by omega)
theorem placeN_eq {s l : List Int} (hl : 0 < l.length) : ∀ i, placeN s l i = if i < s.length then i else s.length + (i - s.length) % l.length
  | 0 => by
    show 0 = _
    split
    · rfl
    · rename_i h
      rw [show s.length = 0 by omega]
      simp
  | i + 1 => by
    show nextN s l (placeN s l i) = _
    rw [placeN_eq hl i]
    have hm := Nat.mod_lt (i - s.length) hl
    unfold nextN
    by_cases h1 : i + 1 < s.length
    · rw [if_pos (show i < s.length by omega), if_pos h1, if_neg (by omega)]
    · rw [if_neg h1]
      by_cases h2 : i < s.length
      · rw [if_pos h2, if_neg (by omega)]
        rw [show i + 1 - s.length = 0 by omega, Nat.zero_mod]
        omega
      · rw [if_neg h2, show i + 1 - s.length = (i - s.length) + 1 by omega, succ_mod hl]
        by_cases h3 : (i - s.length) % l.length + 1 = l.length
        · rw [if_pos h3, if_pos (by omega)]
          rfl
        · rw [if_neg h3, if_neg (by omega)]
          omega
theorem seqN_eq {s l : List Int} (hl : 0 < l.length) (i : Nat) : seqN s l i = if i < s.length then s.getD i 0 else l.getD ((i - s.length) % l.length) 0 := by
  unfold seqN letN
  rw [placeN_eq hl]
  by_cases h : i < s.length
  · rw [if_pos h, if_pos h, if_pos h]
  · rw [if_neg h, if_neg (by omega), if_neg h]
    congr 1
    omega
theorem seqN_twice {s l : List Int} (hl : 0 < l.length) (i : Nat) : seqN s (l ++ l) i = seqN s l i := by
  rw [seqN_eq (by simp; omega), seqN_eq hl]
  split
  · rfl
  · generalize i - s.length = k
    have h1 : (l ++ l).length = l.length + l.length := by simp
    rw [h1]
    have h2 : k % (l.length + l.length) % l.length = k % l.length := Nat.mod_mod_of_dvd k ⟨2, by omega⟩
    have h3 := Nat.mod_lt k (show 0 < l.length + l.length by omega)
    rw [← h2]
    generalize k % (l.length + l.length) = r at h3
    by_cases h : r < l.length
    · rw [Nat.mod_eq_of_lt h, List.getD_eq_getElem?_getD, List.getElem?_append, if_pos h, ← List.getD_eq_getElem?_getD]
    · have : r % l.length = r - l.length := by
        rw [Nat.mod_eq_sub_mod (by omega), Nat.mod_eq_of_lt (by omega)]
      rw [this, List.getD_eq_getElem?_getD, List.getElem?_append, if_neg h, ← List.getD_eq_getElem?_getD]
theorem seqN_roll {s l : List Int} {x : Int} (i : Nat) : seqN s (x :: l) i = seqN (s ++ [x]) (l ++ [x]) i := by
  rw [seqN_eq (by simp), seqN_eq (by simp)]
  have e1 : (s ++ [x]).length = s.length + 1 := by simp
  have e2 : (l ++ [x]).length = l.length + 1 := by simp
  have e3 : (x :: l).length = l.length + 1 := by simp
  rw [e1, e2, e3]
  by_cases h1 : i < s.length
  · rw [if_pos h1, if_pos (by omega), List.getD_eq_getElem?_getD, List.getD_eq_getElem?_getD, List.getElem?_append, if_pos h1]
  · rw [if_neg h1]
    by_cases h2 : i = s.length
    · subst h2
      rw [if_pos (by omega), Nat.sub_self, Nat.zero_mod]
      simp [List.getD_eq_getElem?_getD]
    · rw [if_neg (by omega)]
      obtain ⟨k, hk⟩ : ∃ k, i = s.length + 1 + k := ⟨i - (s.length + 1), by omega⟩
      subst hk
      rw [show s.length + 1 + k - s.length = k + 1 by omega, show s.length + 1 + k - (s.length + 1) = k by omega, succ_mod (by omega)]
      have hr := Nat.mod_lt k (show 0 < l.length + 1 by omega)
      by_cases h3 : k % (l.length + 1) + 1 = l.length + 1
      · rw [if_pos h3, List.getD_eq_getElem?_getD, List.getD_eq_getElem?_getD, List.getElem?_append, if_neg (by omega), show k % (l.length + 1) - l.length = 0 by omega]
        rfl
      · rw [if_neg h3, List.getD_eq_getElem?_getD, List.getD_eq_getElem?_getD, List.getElem?_append, if_pos (by omega)]
        rfl
def Per (l : List Int) (p : Nat) : Prop := 0 < p ∧ l.length % p = 0 ∧ l.drop p = l.take (l.length - p)
theorem per_at {l : List Int} {p : Nat} (h : Per l p) : ∀ i, i < l.length → l.getD i 0 = l.getD (i % p) 0 := by
  intro i
  induction i using Nat.strongRecOn with
  | _ i ih =>
    intro hi
    by_cases hp : i < p
    · rw [Nat.mod_eq_of_lt hp]
    · have h1 : l.getD i 0 = l.getD (i - p) 0 := by
        have h2 : (l.drop p).getD (i - p) 0 = (l.take (l.length - p)).getD (i - p) 0 := by rw [h.2.2]
        rw [List.getD_eq_getElem?_getD, List.getD_eq_getElem?_getD, List.getElem?_drop, List.getElem?_take, if_pos (by omega), ← List.getD_eq_getElem?_getD, ← List.getD_eq_getElem?_getD, show p + (i - p) = i by omega] at h2
        exact h2
      rw [h1, ih (i - p) (by have := h.1; omega) (by omega)]
      congr 1
      exact (Nat.mod_eq_sub_mod (by omega)).symm
theorem seqN_per {s l : List Int} {p : Nat} (h : Per l p) (hpl : p ≤ l.length) (i : Nat) : seqN s (l.take p) i = seqN s l i := by
  have hp := h.1
  have hl : (l.take p).length = p := by simp; omega
  rw [seqN_eq (by omega), seqN_eq (by omega), hl]
  split
  · rfl
  · generalize i - s.length = k
    have h1 := Nat.mod_lt k hp
    have h2 := Nat.mod_lt k (show 0 < l.length by omega)
    rw [per_at h _ h2, Nat.mod_mod_of_dvd k (Nat.dvd_of_mod_eq_zero h.2.1), List.getD_eq_getElem?_getD, List.getElem?_take, if_pos h1, ← List.getD_eq_getElem?_getD]
noncomputable def perL (l : List Int) : Nat := open Classical in if h : ∃ p, Per l p then Classical.choose (least _ h) else l.length
theorem per_self {l : List Int} (h : 0 < l.length) : Per l l.length := ⟨h, Nat.mod_self _, by simp⟩
theorem perL_spec {l : List Int} (h : 0 < l.length) : Per l (perL l) ∧ perL l ≤ l.length ∧ ∀ p, Per l p → perL l ≤ p := by
  have hex : ∃ p, Per l p := ⟨_, per_self h⟩
  unfold perL
  rw [dif_pos hex]
  obtain ⟨h1, h2⟩ := Classical.choose_spec (least _ hex)
  exact ⟨h1, h2 _ (per_self h), h2⟩
def rollW : Nat → List Int → List Int → List Int × List Int
  | 0, s, l => (s, l)
  | k + 1, s, l => if s ≠ [] ∧ s.getLastD 0 = l.getLastD 0 then rollW k s.dropLast (l.getLastD 0 :: l.dropLast) else (s, l)
noncomputable def canonW (s l : List Int) : List Int × List Int := rollW s.length s (l.take (perL l))
theorem last_split {l : List Int} (h : l ≠ []) : l = l.dropLast ++ [l.getLastD 0] := by
  have e : l.getLastD 0 = l.getLast h := by rw [List.getLastD_eq_getLast?, List.getLast?_eq_some_getLast h]; rfl
  rw [e]
  exact (List.dropLast_concat_getLast h).symm
theorem roll_seq {k : Nat} : ∀ {s l : List Int}, l ≠ [] → (∀ i, seqN (rollW k s l).1 (rollW k s l).2 i = seqN s l i) ∧ (rollW k s l).2.length = l.length ∧ (rollW k s l).1.length ≤ s.length ∧
    (∀ x ∈ (rollW k s l).1, x ∈ s) ∧ (∀ x ∈ (rollW k s l).2, x ∈ l) := by
  induction k with
  | zero => exact fun _ => ⟨fun _ => rfl, rfl, Nat.le_refl _, fun _ h => h, fun _ h => h⟩
  | succ k ih =>
    intro s l hl
    unfold rollW
    split
    · rename_i h
      have hls := last_split hl
      have hss := last_split h.1
      obtain ⟨g1, g2, g3, g4, g5⟩ := ih (s := s.dropLast) (l := l.getLastD 0 :: l.dropLast) (by simp)
      have hx : ∀ x ∈ (l.getLastD 0 :: l.dropLast), x ∈ l := fun x hx => by
        rw [hls]
        rcases List.mem_cons.1 hx with rfl | hx
        · simp
        · exact List.mem_append_left _ hx
      refine ⟨fun i => ?_, ?_, ?_, fun x hx => List.dropLast_subset _ (g4 x hx), fun x h2 => hx x (g5 x h2)⟩
      · rw [g1, seqN_roll]
        conv => rhs; rw [hls, hss, h.2]
      · rw [g2, List.length_cons, List.length_dropLast]
        have := List.length_pos_iff.2 hl
        omega
      · rw [List.length_dropLast] at g3; omega
    · exact ⟨fun _ => rfl, rfl, Nat.le_refl _, fun _ h => h, fun _ h => h⟩
theorem canon_seq {s l : List Int} (hl : 0 < l.length) : (∀ i, seqN (canonW s l).1 (canonW s l).2 i = seqN s l i) ∧ (canonW s l).2.length = perL l ∧ (canonW s l).1.length ≤ s.length ∧ (∀ x ∈ (canonW s l).1, x ∈ s) ∧ (∀ x ∈ (canonW s l).2, x ∈ l) := by
  obtain ⟨h1, h2, h3⟩ := perL_spec hl
  have hn : l.take (perL l) ≠ [] := by
    have := h1.1
    intro h0
    have := congrArg List.length h0
    rw [List.length_take, List.length_nil] at this
    omega
  obtain ⟨g1, g2, g3, g4, g5⟩ := roll_seq (k := s.length) (s := s) hn
  refine ⟨fun i => ?_, ?_, g3, g4, fun x hx => List.mem_of_mem_take (g5 x hx)⟩
  · unfold canonW
    rw [g1, seqN_per h1 h2]
  · unfold canonW
    rw [g2]; simp; omega
def c_spec_AutoTakes : ICode := (.seq (.reg [O1 2 (.box 4) 0, O1 3 (.box 2) 1, Ol 4 .mv [cb false]]) (.seq (.drw [O1 5 (.ldn 4) 2, O1 6 (.call 38) 5, O1 7 .mv 6, Og 8 (.ldn 4) [.t 2] 7 true, Og 9 (.call 98) [.t 8] 7 true, Og 10 (.ldn 2) [.t 3] 7 true, Og 11 (.call 68) [.t 9, .t 10] 7 true, Ol 12 .pick [.t 7, .t 11, cb false], O1 4 .mv 12] (unB [0, 1, 3, 7, 15, 7, 63, 127, 255] 0) true true) .ret))
theorem b_spec_AutoTakes : Body Try.prog 40 13 c_spec_AutoTakes [(.t 4)] := body_mk Try.func40 (by kernel_rfl) (by decide)
def c_impl_AutoTakes : ICode := (.seq (.reg [O1 2 (.box 4) 0, O1 3 (.box 2) 1, Ol 4 .mv [cb false]]) (.seq (.drw [O1 5 (.ldn 4) 2, O1 6 (.call 70) 5, O1 7 .mv 6, Og 8 (.ldn 2) [.t 3] 7 true, Og 9 (.fadr 0) [.t 2] 7 true, Og 10 .ld1 [.t 9] 7 true, Og 11 (.call 85) [.t 8, .t 10] 7 true, Ol 12 .pick [.t 7, .t 11, cb false], O1 13 .mv 12, Og 14 (.fadr 1) [.t 2] 13 true, Og 15 .ld1 [.t 14] 13 true, Og 16 (.ldn 4) [.t 2] 13 true, Og 17 (.call 102) [.t 16] 13 true, Og 18 (.fld1 4) [.t 17] 13 true, Og 19 (.ldn 2) [.t 3] 13 true, Og 20 (.call 101) [.t 15, .t 18, .t 19] 13 true, Og 21 (.fadr 2) [.t 2] 13 true, Og 22 .ld1 [.t 21] 13 true, Og 23 (.call 80) [.t 22] 13 true, Og 24 (.call 118) [.t 20, .t 23, ci 1] 13 true, Ol 25 .pick [.t 13, .t 24, cb false], O1 4 .mv 25] (unB [0, 1, 3, 7, 7, 23, 63, 127, 255, 511, 1023, 511, 2559, 6655, 511, 32767, 511, 66047, 262143, 524287, 1048575, 2097151] 0) true true) .ret))
theorem b_impl_AutoTakes : Body Try.prog 39 26 c_impl_AutoTakes [(.t 4)] := body_mk Try.func39 (by kernel_rfl) (by decide)
def TakesA (a : AutoD) (s l : List Int) : Prop := AutoOk a ∧ TakesG (genOfD a) s l
theorem snap_gen2 {h h2 : Heap} {o : Nat} {g : GenD} (ho : h2 o = some (.arr 4 (gedgeRows g.edges))) : (AV.agg ((genRef o g).map (AV.snap1 h2))).snap h = .agg (genRow g) :=
  snap_agg (cells_cons rfl (cells_cons rfl (cells_cons rfl (cells_cons rfl (cells_cons (snap1_all2 ho (length_gedgeRows _)) rfl)))))
theorem snap_gv {g : GenD} : AV.snap1 (objsH [AObj.arr 4 (gedgeRows g.edges)]) (AV.ref 0 0 g.edges.length) = .val (gedgeRows g.edges) := snap1_all rfl (length_gedgeRows _)
theorem snapT_ints {l : List Int} {n : Nat} (h : (ints l).length = n) : AV.snapT (objsH [AObj.arr 1 (ints l)]) (AV.ref 0 0 n) = .val (ints l) := by
  show AV.snap (objsH [AObj.arr 1 (ints l)]) (AV.ref 0 0 n) = .val (ints l)
  exact snap_all rfl h
theorem snap_gr {h : Heap} {G : GraphD} {n m : Nat} (hn : G.length = n) : (AV.rptr (List.map (AV.snap1 (objsH [gBox 1 m, gNst G])) [AV.ref 1 0 n]) 0).snap h = .rptr [.val (gRows G)] 0 := by
  subst hn
  have e := thaw_g G
  have hl : (gOwns G).length = G.length := by simp [gOwns]
  have e1 : AV.snap1 (objsH [gBox 1 m, gNst G]) (AV.ref 1 0 G.length) = .val (gRows G) := by
    have e0 : objsH [gBox 1 m, gNst G] 1 = some (gNst G) := rfl
    simp only [AV.snap1, e0]
    rw [if_pos (by omega)]
    unfold sub
    rw [List.drop_zero, List.take_of_length_le (by omega), e]
  show AV.rptr (List.map (AV.snap1 (objsH [gBox 1 m, gNst G])) [AV.ref 1 0 G.length]) 0 = _
  rw [List.map_cons, List.map_nil, e1]
theorem RTakesG_eq {xs : List AV} {g : GenD} {s l : List Int} {b : Bool} (hx : xs = [.agg (genRow g), wordV s l]) (hb : b = true ↔ TakesG g s l) : RTakesG xs (.bool b) [] := ⟨g, s, l, b, hx, hb, rfl, rfl⟩
def RTakesA (xs : List AV) (r : AV) (objs : List AObj) : Prop := ∃ (a : AutoD) (s l : List Int) (b : Bool), xs = [.agg (autoRow a), wordV s l] ∧ (b = true ↔ TakesA a s l) ∧ r = .bool b ∧ objs = []
set_option maxHeartbeats 2000000 in
theorem s_spec_AutoTakes : PureSound Try.prog 40 RTakesA := by
  have hR : Rely Try.prog (ctxOf [(38, .pure RAutoOk), (98, .pure RGenOf), (68, .pure RTakesG)]) :=
    rely_cons b_spec_AutoOk.has s_spec_AutoOk (rely_cons b_spec_GenOf.has s_spec_GenOf (rely_cons b_spec_GenTakes.has s_spec_GenTakes (rely_nil mixed)))
  refine pure_of_aw b_spec_AutoTakes ?_
  rintro xs r objs ⟨a, s, l, b, rfl, hb0, rfl, rfl⟩ -
  refine ⟨by simp, vc2_sound hR _ _ _ _ _ ?_⟩
  by_cases ha : AutoOk a
  · have hb1 : b = true ↔ TakesG (genOfD a) s l := hb0.trans ⟨fun h => h.2, fun h => ⟨ha, h⟩⟩
    cases b
    all_goals
      conv => whnf
      repeat' ((first | contradiction | (refine And.intro (fun hb => ?_) (fun hb => ?_) <;> first | contradiction | ((try simp only [SB, reduceCtorEq] at hb); try (exfalso; first | contradiction | omega))) | refine G2 ?_ | rw [ints_at (by omega)] | rw [ints_at0 (by omega)] | rw [ints_at' (by omega) (by omega)] | refine G1 ?_ | refine ⟨_, _, RAutoOk_mk, ?_⟩ | refine ⟨_, _, RGenOf_eq rfl ha, ?_⟩ | refine ⟨_, _, RTakesG_eq (args_cons (snap_gen2 rfl) (args_cons rfl rfl)) hb1, ?_⟩ | fail) <;> conv => whnf)
      refine ⟨.inl rfl, ?_⟩
      conv => whnf
      refine ⟨[], ⟨rfl, trivial⟩, ?_, rfl, rfl⟩
      conv => whnf
      left
      conv => lhs; whnf
  · obtain rfl : b = false := Bool.eq_false_iff.2 fun h => ha (hb0.1 h).1
    conv => whnf
    repeat' ((first | contradiction | (refine And.intro (fun hb => ?_) (fun hb => ?_) <;> first | contradiction | ((try simp only [SB, reduceCtorEq] at hb); try (exfalso; first | contradiction | omega))) | refine G2 ?_ | rw [ints_at (by omega)] | rw [ints_at0 (by omega)] | rw [ints_at' (by omega) (by omega)] | refine G1 ?_ | refine ⟨_, _, RAutoOk_mk, ?_⟩ | fail) <;> conv => whnf)
    refine ⟨.inl rfl, ?_⟩
    conv => whnf
    refine ⟨[], ⟨rfl, trivial⟩, ?_, rfl, rfl⟩
    conv => whnf
    left
    conv => lhs; whnf
theorem gok_pts {g : GenD} (hg : GenOk g) {s l : List Int} (hl0 : 0 < l.length) : GOk (ptsG g.states.toNat s l g.edges) := by
  rintro p ⟨y, m⟩ hs
  rw [length_ptsG]
  obtain ⟨h1, e, he, h2, h3, h4, h5⟩ := (step_pts hg).1 hs
  have hi := gmem hg he
  unfold GIn at hi
  show y < _
  rw [h4]
  exact pt_lt (nextN_lt h1 hl0) (by omega)
theorem marks_pts {g : GenD} (hg : GenOk g) {s l : List Int} : MarksOk (ptsG g.states.toNat s l g.edges) := by
  rintro p ⟨y, m⟩ hs
  obtain ⟨h1, e, he, h2, h3, h4, h5⟩ := (step_pts hg).1 hs
  have hi := gmem hg he
  unfold GIn at hi
  subst h5
  show 0 ≤ e.marks ∧ e.marks < 2 ^ 31
  omega
theorem steps_pts {g : GenD} (hg : GenOk g) {s l : List Int} (h1 : s.length ≤ 40) (h2 : l.length ≤ 40) : steps (ptsG g.states.toNat s l g.edges) ≤ 1000000000 := by
  have hN : (s.length + l.length) * g.states.toNat ≤ 80 * 31 := Nat.mul_le_mul (by omega) (by have := hg.1.2.1; omega)
  have h := steps_mkG (n := (s.length + l.length) * g.states.toNat) (l := ptAll g.states.toNat s l g.edges (s.length + l.length))
  have h3 := ptAll_len (n := g.states.toNat) (s := s) (l := l) (es := g.edges) (s.length + l.length)
  have h4 : (s.length + l.length) * g.edges.length ≤ 80 * 2000 := Nat.mul_le_mul (by omega) hg.2.2.1
  have h5 : (s.length + l.length) * g.states.toNat * (ptAll g.states.toNat s l g.edges (s.length + l.length)).length ≤ (80 * 31) * (80 * 2000) := Nat.mul_le_mul hN (by omega)
  unfold ptsG
  omega
theorem start_pts {g : GenD} (hg : GenOk g) {s l : List Int} (hl0 : 0 < l.length) : ∀ p ∈ bitL g.start.toNat 31, p < (ptsG g.states.toNat s l g.edges).length := by
  intro p hp
  have hb := bit_lt (gstart_lt hg) (mem_bitL.1 hp).2
  rw [length_ptsG]
  have := Nat.mul_le_mul_right g.states.toNat (show 1 ≤ s.length + l.length by omega)
  omega
theorem RPoints_eq {xs : List AV} {n : Int} {es : List GEdgeD} {s l : List Int} (hx : xs = [.int .i64 n, .val (gedgeRows es), wordV s l]) (h0 : 0 ≤ n) (h1 : n ≤ 64) (h2 : es.length ≤ 2000) (h3 : EdgesIn n.toNat es) (h4 : s.length ≤ 100) (h5 : l.length ≤ 100) (h6 : 0 < l.length) :
    RPoints xs (.ptr 0 0 0) [gBox 1 ((s.length + l.length) * n.toNat), gNst (ptsG n.toNat s l es)] := ⟨n.toNat, es, s, l, by rw [hx, Int.toNat_of_nonneg h0], by omega, h2, h3, h4, h5, h6, rfl, rfl⟩
theorem edges_in {g : GenD} (hg : GenOk g) : EdgesIn g.states.toNat g.edges := fun i hi => by
  have := gin hg hi
  unfold GIn at this
  omega
theorem RLives_eq {xs : List AV} {G : GraphD} {src : List Nat} {all : Nat} {b : Bool} (hx : xs = [.rptr [.val (gRows G)] 0, .val (ints (natsI src)), .int .i64 ((all : Nat) : Int)]) (h1 : GOk G) (h2 : MarksOk G) (h3 : G.length ≤ 100000) (h4 : steps G ≤ 1000000000)
    (h5 : ∀ p ∈ src, p < G.length) (h6 : src.length ≤ 100000) (h7 : all < 2 ^ 31) (hb : b = true ↔ Lives G src all) : RLives xs (.bool b) [] := ⟨G, src, all, b, hx, h1, h2, h3, h4, h5, h6, h7, hb, rfl, rfl⟩
theorem RSetList_eq {xs : List AV} {X : Int} (hx : xs = [.int .i64 X]) (h0 : 0 ≤ X) (h : X < 2 ^ 31) : RSetList xs (.ref 0 0 (bitL X.toNat 31).length) [.arr 1 (ints (natsI (bitL X.toNat 31)))] := ⟨X.toNat, by rw [hx, Int.toNat_of_nonneg h0], by omega, rfl, rfl⟩
set_option maxHeartbeats 4000000 in
theorem s_impl_AutoTakes : PureSound Try.prog 39 RTakesA := by
  have hR : Rely Try.prog (ctxOf [(70, .pure RAutoOk), (85, .pure RWordOk), (102, .pure RGenOfI), (101, .pure RPoints), (80, .pure RSetList), (118, .pure RLives)]) :=
    rely_cons b_impl_AutoOk.has s_impl_AutoOk (rely_cons b_impl_WordOk.has s_impl_WordOk (rely_cons b_impl_genOf.has s_impl_genOf (rely_cons b_impl_pointsBy.has s_impl_pointsBy (rely_cons b_impl_SetList.has s_impl_SetList (rely_cons b_impl_graph_lives.has s_impl_lives (rely_nil mixed))))))
  refine pure_of_aw b_impl_AutoTakes ?_
  rintro xs r objs ⟨a, s, l, b, rfl, hb0, rfl, rfl⟩ -
  refine ⟨by simp, vc2_sound hR _ _ _ _ _ ?_⟩
  by_cases ha : AutoOk a
  rotate_left
  · obtain rfl : b = false := Bool.eq_false_iff.2 fun h => ha (hb0.1 h).1
    conv => whnf
    repeat' ((first | contradiction | (refine And.intro (fun hb => ?_) (fun hb => ?_) <;> first | contradiction | ((try simp only [SB, reduceCtorEq] at hb); try (exfalso; first | contradiction | omega))) | refine G2 ?_ | rw [ints_at (by omega)] | rw [ints_at0 (by omega)] | rw [ints_at' (by omega) (by omega)] | refine G1 ?_ | refine ⟨_, _, RAutoOk_mk, ?_⟩ | fail) <;> conv => whnf)
    refine ⟨.inl rfl, ?_⟩
    conv => whnf
    refine ⟨[], ⟨rfl, trivial⟩, ?_, rfl, rfl⟩
    conv => whnf
    left
    conv => lhs; whnf
  cases hw : wordOk s l a.letters
  · obtain rfl : b = false := Bool.eq_false_iff.2 fun h => by
      have := (hb0.1 h).2.2.1
      rw [show (genOfD a).letters = a.letters from rfl, hw] at this
      cases this
    conv => whnf
    repeat' ((first | contradiction | (refine And.intro (fun hb => ?_) (fun hb => ?_) <;> first | contradiction | ((try simp only [SB, reduceCtorEq] at hb); try (exfalso; first | contradiction | omega))) | refine G2 ?_ | rw [ints_at (by omega)] | rw [ints_at0 (by omega)] | rw [ints_at' (by omega) (by omega)] | refine G1 ?_ | refine ⟨_, _, RAutoOk_mk, ?_⟩ | refine ⟨_, _, ⟨s, l, a.letters, rfl, congrArg AV.bool hw.symm, rfl⟩, ?_⟩ | fail) <;> conv => whnf)
    refine ⟨.inl rfl, ?_⟩
    conv => whnf
    refine ⟨[], ⟨rfl, trivial⟩, ?_, rfl, rfl⟩
    conv => whnf
    left
    conv => lhs; whnf
  have hg := genOf_ok ha
  obtain ⟨hlo, hs, hl, hl0⟩ := let_ok hw
  have hst := ha.1.2.1
  have hsr := ha.1.2.2
  have hb1 : b = true ↔ Lives (ptsG a.states.toNat s l (genOfD a).edges) (bitL a.start.toNat 31) 1 := hb0.trans ⟨fun h => h.2.2.2, fun h => ⟨ha, hg, hw, h⟩⟩
  have g1 : GOk (ptsG a.states.toNat s l (genOfD a).edges) := gok_pts hg hl0
  have g2 : MarksOk (ptsG a.states.toNat s l (genOfD a).edges) := marks_pts hg
  have g3 : (ptsG a.states.toNat s l (genOfD a).edges).length = (s.length + l.length) * a.states.toNat := length_ptsG
  have g4 : steps (ptsG a.states.toNat s l (genOfD a).edges) ≤ 1000000000 := steps_pts hg hs hl
  have g5 : ∀ p ∈ bitL a.start.toNat 31, p < (ptsG a.states.toNat s l (genOfD a).edges).length := start_pts hg hl0
  have g6 : EdgesIn a.states.toNat (genOfD a).edges := edges_in hg
  have g7 := hg.2.2.1
  have g8 : (bitL a.start.toNat 31).length ≤ 31 := bitL_len
  have hNN : (s.length + l.length) * a.states.toNat ≤ 80 * 31 := Nat.mul_le_mul (by omega) (by omega)
  have hgl := length_gedgeRows (genOfD a).edges
  have hbl : (ints (natsI (bitL a.start.toNat 31))).length = (bitL a.start.toNat 31).length := by simp [ints]
  cases b
  all_goals
    conv => whnf
    repeat' ((first | contradiction | (refine And.intro (fun hb => ?_) (fun hb => ?_) <;> first | contradiction | ((try simp only [SB, reduceCtorEq] at hb); try (exfalso; first | contradiction | omega))) | rw [snap_gv] | rw [snapT_ints hbl] | refine G2 ?_ | rw [ints_at (by omega)] | rw [ints_at0 (by omega)] | rw [ints_at' (by omega) (by omega)] | refine G1 ?_ | refine ⟨_, _, RAutoOk_mk, ?_⟩ | refine ⟨_, _, ⟨s, l, a.letters, rfl, congrArg AV.bool hw.symm, rfl⟩, ?_⟩ | refine ⟨_, _, RGenOfI_eq rfl ha, ?_⟩ | refine ⟨_, _, RPoints_eq (s := s) (l := l) (args_cons rfl (args_cons rfl (args_cons rfl rfl))) (by omega) (by omega) g7 g6 (by omega) (by omega) hl0, ?_⟩ | refine ⟨_, _, RSetList_eq rfl (by omega) (by omega), ?_⟩ | refine ⟨_, _, RLives_eq (args_cons (snap_gr g3) (args_cons rfl (args_cons rfl rfl))) g1 g2 (by omega) g4 g5 (by omega) (by decide) hb1, ?_⟩ | fail) <;> conv => whnf)
    refine ⟨.inl rfl, ?_⟩
    conv => whnf
    refine ⟨[], ⟨rfl, trivial⟩, ?_, rfl, rfl⟩
    conv => whnf
    left
    conv => lhs; whnf
structure RunA (a : AutoD) (w : Nat → Int) (q : Nat → Nat) (e : Nat → EdgeD) : Prop where
  start : a.start.toNat.testBit (q 0) = true
  edge : ∀ i, e i ∈ a.edges
  letter : ∀ i, (e i).letter = w i
  src : ∀ i, (e i).src.toNat = q i
  dst : ∀ i, (e i).dst.toNat = q (i + 1)
  mark : ∀ i, ∃ j, i ≤ j ∧ (e j).mark = true
theorem markG_bit {e : EdgeD} : (markG e).marks.toNat.testBit 0 = true ↔ e.mark = true := by
  unfold markG
  cases e.mark <;> simp
theorem runA_iff {a : AutoD} {w : Nat → Int} : (∃ q e, Run (genOfD a) w q e) ↔ ∃ q e, RunA a w q e := by
  constructor
  · rintro ⟨q, e, h⟩
    have hex : ∀ i, ∃ x ∈ a.edges, markG x = e i := fun i => List.mem_map.1 (h.edge i)
    obtain ⟨f, hf⟩ := Classical.axiomOfChoice hex
    refine ⟨q, f, ⟨h.start, fun i => (hf i).1, fun i => ?_, fun i => ?_, fun i => ?_, fun i => ?_⟩⟩
    · have := h.letter i; rw [← (hf i).2] at this; exact this
    · have := h.src i; rw [← (hf i).2] at this; exact this
    · have := h.dst i; rw [← (hf i).2] at this; exact this
    · obtain ⟨j, hj, hb⟩ := h.mark 0 (by show 0 < (1 : Int).toNat; decide) i
      rw [← (hf j).2] at hb
      exact ⟨j, hj, markG_bit.1 hb⟩
  · rintro ⟨q, e, h⟩
    refine ⟨q, fun i => markG (e i), ⟨h.start, fun i => List.mem_map.2 ⟨_, h.edge i, rfl⟩, h.letter, h.src, h.dst, fun b hb i => ?_⟩⟩
    have hb0 : b < (1 : Int).toNat := hb
    obtain rfl : b = 0 := by
      have : (1 : Int).toNat = 1 := rfl
      omega
    obtain ⟨j, hj, hm⟩ := h.mark i
    exact ⟨j, hj, markG_bit.2 hm⟩
theorem takesA_iff {a : AutoD} {s l : List Int} : TakesA a s l ↔ AutoOk a ∧ wordOk s l a.letters = true ∧ ∃ q e, RunA a (seqN s l) q e := by
  unfold TakesA
  rw [takesG_iff, ← runA_iff]
  exact ⟨fun ⟨h1, _, h2, h3⟩ => ⟨h1, h2, h3⟩, fun ⟨h1, h2, h3⟩ => ⟨h1, genOf_ok h1, h2, h3⟩⟩
theorem takesA_same {a : AutoD} {s l s' l' : List Int} (hw : wordOk s l a.letters = wordOk s' l' a.letters) (h : ∀ i, seqN s l i = seqN s' l' i) : TakesA a s l ↔ TakesA a s' l' := by
  rw [takesA_iff, takesA_iff, hw, show seqN s l = seqN s' l' from funext h]
theorem runA_lt {a : AutoD} (ha : AutoOk a) {w : Nat → Int} {q : Nat → Nat} {e : Nat → EdgeD} (h : RunA a w q e) (i : Nat) : q i < a.states.toNat := by
  obtain ⟨j, hj, he⟩ := List.getElem_of_mem (h.edge i)
  have := edge_in ha hj
  rw [List.getD_eq_getElem?_getD, List.getElem?_eq_getElem hj] at this
  have hs := h.src i
  unfold EdgeIn at this
  dsimp only [Option.getD_some] at this
  rw [he] at this
  omega
theorem edgeLess_iff {x y : EdgeD} : edgeLess x y = true ↔ x.src < y.src ∨ x.src = y.src ∧ (x.letter < y.letter ∨ x.letter = y.letter ∧ x.dst < y.dst) := by
  unfold edgeLess
  by_cases h1 : x.src = y.src
  · rw [if_neg (by simp [h1])]
    by_cases h2 : x.letter = y.letter
    · rw [if_neg (by simp [h2]), decide_eq_true_eq]
      omega
    · rw [if_pos h2, decide_eq_true_eq]
      omega
  · rw [if_pos h1, decide_eq_true_eq]
    omega
theorem edges_sorted {a : AutoD} (ha : AutoOk a) {i : Nat} : ∀ {j : Nat}, i < j → j < a.edges.length → edgeLess (a.edges.getD i default) (a.edges.getD j default) = true
  | 0, h, _ => by omega
  | j + 1, h, hj => by
    have h1 := (ha.2.2 (j + 1) hj).2 (by omega)
    rw [Nat.add_sub_cancel] at h1
    by_cases hij : i = j
    · subst hij; exact h1
    · have h2 := edges_sorted ha (i := i) (j := j) (by omega) (by omega)
      rw [edgeLess_iff] at h1 h2 ⊢
      omega
def StepR (a : AutoD) (s l : List Int) (st : List Int) (i : Nat) (e : EdgeD) : Prop := e ∈ a.edges ∧ e.src = st.getD i 0 ∧ e.letter = seqN s l i ∧ e.dst = st.getD (i + 1) 0
abbrev AE (a : AutoD) (p r : Nat) : Prop := EA a r p
noncomputable def farT (a : AutoD) (to : Nat) : List Int := farL (AE a) (· ∈ [to]) a.states.toNat
theorem farT_len {a : AutoD} {to : Nat} : (farT a to).length = a.states.toNat := length_farL
noncomputable def down (a : AutoD) (F : List Int) (X x k : Nat) : Nat := stepU a X x &&& atN F k F.length
inductive Pt (a : AutoD) (F : List Int) (b X0 : Nat) : Nat → Nat → List Nat → Prop
  | start : Pt a F b X0 b X0 []
  | step {k X x : Nat} {out : List Nat} : Pt a F b X0 (k + 1) X out → (∀ y, y < x → down a F X y k = 0) → down a F X x k ≠ 0 → Pt a F b X0 k (down a F X x k) (out ++ [x])
theorem Pt.len {a : AutoD} {F : List Int} {b X0 k X : Nat} {out : List Nat} (h : Pt a F b X0 k X out) : out.length + k = b := by
  induction h with
  | start => simp
  | step _ _ _ ih => simp; omega
theorem Pt.uniq {a : AutoD} {F : List Int} {b X0 k X : Nat} {out : List Nat} (h : Pt a F b X0 k X out) : ∀ {X' : Nat} {out' : List Nat}, Pt a F b X0 k X' out' → X = X' ∧ out = out' := by
  induction h with
  | start =>
    intro X' out' h'
    cases h' with
    | start => exact ⟨rfl, rfl⟩
    | step h _ _ => have := h.len; omega
  | step h1 h2 h3 ih =>
    intro X' out' h'
    cases h' with
    | start => have := h1.len; omega
    | @step _ X2 x2 out2 g1 g2 g3 =>
      obtain ⟨rfl, rfl⟩ := ih g1
      rename_i x _
      rcases Nat.lt_trichotomy x x2 with h | h | h
      · exact absurd (g2 _ h) h3
      · subst h; exact ⟨rfl, rfl⟩
      · exact absurd (h2 _ h) g3
def Far (a : AutoD) (to k X : Nat) : Prop := X ≠ 0 ∧ ∀ p, X.testBit p = true → p < a.states.toNat ∧ IsDist (AE a) (· ∈ [to]) p (k : Int)
theorem farT_at {a : AutoD} {to p : Nat} (h : p < a.states.toNat) : (farT a to).getD p 0 = distI (AE a) (· ∈ [to]) p := farL_at h
theorem isDist_of {A : Nat → Nat → Prop} {S : Nat → Prop} {p k : Nat} (h : distI A S p = (k : Int)) : IsDist A S p (k : Int) := by
  rcases dist_cases A S p with h1 | h1
  · omega
  · rw [h] at h1; exact h1
theorem bit_atN {F : List Int} {k : Int} {n p : Nat} : (atN F k n).testBit p = true ↔ p < n ∧ F.getD p 0 = k := testBit_bitsOf
theorem far_and {a : AutoD} {to k X : Nat} (h : X &&& atN (farT a to) k (farT a to).length ≠ 0) : Far a to k (X &&& atN (farT a to) k (farT a to).length) := by
  refine ⟨h, fun p hp => ?_⟩
  rw [Nat.testBit_and, Bool.and_eq_true, bit_atN, farT_len] at hp
  obtain ⟨_, h1, h2⟩ := hp
  rw [farT_at h1] at h2
  exact ⟨h1, isDist_of h2⟩
theorem bit_stepU {a : AutoD} {X q : Nat} {x : Int} : (stepU a X x).testBit q = true ↔ ∃ e ∈ a.edges, e.letter = x ∧ X.testBit e.src.toNat = true ∧ e.dst.toNat = q := by
  unfold stepU
  rw [bit_stepI]
  constructor
  · rintro ⟨j, h1, h2, h3, h4⟩; exact ⟨_, getD_mem' h1, h2, h3, h4⟩
  · rintro ⟨e, he, h2, h3, h4⟩
    obtain ⟨j, hj, rfl⟩ := mem_at he
    exact ⟨j, hj, h2, h3, h4⟩
theorem Pt.far {a : AutoD} {to b X0 k X : Nat} {out : List Nat} (h0 : Far a to b X0) (h : Pt a (farT a to) b X0 k X out) : Far a to k X := by
  cases h with
  | start => exact h0
  | step _ _ h3 => exact far_and h3
theorem lt31 {a : AutoD} (ha : AutoOk a) {X : Nat} (hX : X < 2 ^ a.states.toNat) : X < 2 ^ 31 := Nat.lt_of_lt_of_le hX (pow_le31 (by have := ha.1.2.1; omega))
def c_slices_Grow_int_int : ICode := (.seq (.reg [Ol 4 .mv [.c .snil]]) (.seq (.seq (.reg [O1 5 .mv 1, Ol 6 (.bin .lss) [.t 5, ci 0]]) (.cond (.t 6) (.reg [O0 7 .no, Sl .no []]) .skip)) (.seq (.seq (.reg [O1 8 .mv 1, O1 9 .mv 0, O1 10 .cap 9, O1 11 .mv 0, O1 12 .len 11, O2 13 (.bin .sub) 10 12, O2 14 (.bin .sub) 8 13, O1 1 .mv 14]) (.seq (.reg [O1 15 .mv 1, Ol 16 (.bin .gtr) [.t 15, ci 0]]) (.cond (.t 16) (.reg [O1 17 .mv 0, O1 18 .mv 0, O1 19 .cap 18, O2 20 (.slc 1 false true) 17 19, O1 21 .mv 1, O2 22 (.apz 1 8 [(.int .i64 0)]) 20 21, O1 23 .mv 0, O1 24 .len 23, O2 25 (.slc 1 false true) 22 24, O1 0 .mv 25]) .skip))) (.seq (.reg [O1 26 .mv 0, O1 4 .mv 26]) .ret))))
theorem b_slices_Grow_int_int : Body Try.prog 179 27 c_slices_Grow_int_int [(.t 4)] := body_mk Try.func179 (by kernel_rfl) (by decide)
def c_slices_Concat_int_int : ICode := (.seq (.reg [Ol 2 .mv [.c .snil]]) (.seq (.reg [Ol 3 .mv [ci 0]]) (.seq (.seq (.reg [O1 9 .mv 0, O1 10 .len 9, Ol 11 .mv [ci 0]]) (.block 0 (.loop (.seq (.reg [O2 12 (.bin .lss) 11 10]) (.seq (.cond (.t 12) .skip (.exit 0)) (.seq (.block 1 (.seq (.reg [O2 13 (.iadr 1) 9 11, O1 14 .ld1 13, O1 5 .mv 14]) (.seq (.reg [O1 15 .mv 3, O1 16 .mv 5, O1 17 .len 16, O2 18 (.bin .add) 15 17, O1 3 .mv 18]) (.seq (.reg [O1 19 .mv 3, Ol 20 (.bin .lss) [.t 19, ci 0]]) (.cond (.t 20) (.reg [O0 21 .no, Sl .no []]) .skip))))) (.reg [Ol 22 (.bin .add) [.t 11, ci 1], O1 11 .mv 22]))))))) (.seq (.reg [O1 23 .mv 3, Ol 24 (.call 179) [.c .snil, .t 23], O1 6 .mv 24]) (.seq (.seq (.reg [O1 25 .mv 0, O1 26 .len 25, Ol 27 .mv [ci 0]]) (.block 2 (.loop (.seq (.reg [O2 28 (.bin .lss) 27 26]) (.seq (.cond (.t 28) .skip (.exit 2)) (.seq (.block 3 (.seq (.reg [O2 29 (.iadr 1) 25 27, O1 30 .ld1 29, O1 8 .mv 30]) (.reg [O1 31 .mv 6, O1 32 .mv 8, O2 33 (.app 1 8) 31 32, O1 6 .mv 33]))) (.reg [Ol 34 (.bin .add) [.t 27, ci 1], O1 27 .mv 34]))))))) (.seq (.reg [O1 35 .mv 6, O1 2 .mv 35]) .ret))))))
theorem b_slices_Concat_int_int : Body Try.prog 107 36 c_slices_Concat_int_int [(.t 2)] := body_mk Try.func107 (by kernel_rfl) (by decide)
def GGrow : GFun := fun xs objs Q => ∃ n : Nat, xs = [.snil, .int .i64 ((n : Nat) : Int)] ∧ objs = [] ∧ n ≤ 1000000 ∧ Q (.ref 0 0 0) [some (.arr 1 (List.replicate n [.int .i64 0]))]
theorem GGrow_mk {n : Nat} {Q : AV → List (Option AObj) → Prop} (h : n ≤ 1000000) (hq : Q (.ref 0 0 0) [some (.arr 1 (List.replicate n [.int .i64 0]))]) : GGrow [.snil, .int .i64 ((n : Nat) : Int)] [] Q := ⟨n, rfl, rfl, h, hq⟩
theorem s_slices_Grow : GenSound Try.prog 179 0 GGrow := by
  have hR : Rely Try.prog (ctxOf []) := rely_nil mixed
  refine gen_of_aw b_slices_Grow_int_int ?_
  rintro xs objs Q - ⟨n, rfl, rfl, hn, hq⟩ -
  refine ⟨by simp, vc2_sound hR _ _ _ _ _ ?_⟩
  conv => whnf
  repeat' ((first | contradiction | (refine And.intro (fun hb => ?_) (fun hb => ?_) <;> first | contradiction | ((try simp only [SB, reduceCtorEq] at hb); try (exfalso; first | contradiction | omega))) | refine G2 ?_ | rw [ints_at (by omega)] | rw [ints_at0 (by omega)] | rw [ints_at' (by omega) (by omega)] | refine G1 ?_ | fail) <;> conv => whnf)
  · refine ⟨.inl rfl, ?_⟩
    conv => whnf
    refine ⟨[some 0], .ref 0 0 0, [some (.arr 1 (List.replicate n [.int .i64 0]))], ⟨rfl, And.intro (And.intro rfl ?_) trivial⟩, rfl, rfl, hq⟩
    exact congrArg (fun k => List.replicate k [AV.int .i64 0]) (by omega)
  · obtain rfl : n = 0 := by omega
    refine ⟨.inl rfl, ?_⟩
    conv => whnf
    exact ⟨[none], .ref 0 0 0, [some (.arr 1 [])], ⟨rfl, And.intro rfl trivial⟩, ⟨rfl, rfl, rfl⟩, rfl, hq⟩
def rowsL (Ls : List (List Int)) : List (List AV) := Ls.map fun l => [.val (ints l)]
@[simp] theorem length_rowsL (Ls : List (List Int)) : (rowsL Ls).length = Ls.length := by simp [rowsL]
theorem rowsL_at {Ls : List (List Int)} {i : Nat} (h : i < Ls.length) : (rowsL Ls)[((i : Nat) : Int).toNat]? = some [.val (ints (Ls.getD i []))] := by
  simp [rowsL, List.getElem?_map, List.getElem?_eq_getElem h, List.getD_eq_getElem?_getD]
def flat (Ls : List (List Int)) (i : Nat) : List Int := (Ls.take i).flatten
theorem flat_succ {Ls : List (List Int)} {i : Nat} (h : i < Ls.length) : flat Ls (i + 1) = flat Ls i ++ Ls.getD i [] := by
  unfold flat
  rw [List.take_add_one, List.getElem?_eq_getElem h, Option.toList_some, List.flatten_append]
  simp [List.getD_eq_getElem?_getD, h]
theorem flat_le {Ls : List (List Int)} {i j : Nat} (h : i ≤ j) : (flat Ls i).length ≤ (flat Ls j).length := by
  induction j with
  | zero => rw [show i = 0 by omega]; exact Nat.le_refl _
  | succ j ih =>
    by_cases hij : i = j + 1
    · rw [hij]; exact Nat.le_refl _
    · refine Nat.le_trans (ih (by omega)) ?_
      rcases Nat.lt_or_ge j Ls.length with hj | hj
      · rw [flat_succ hj, List.length_append]; omega
      · unfold flat
        rw [List.take_of_length_le hj, List.take_of_length_le (by omega)]
        exact Nat.le_refl _
theorem flat_all {Ls : List (List Int)} {i : Nat} (h : Ls.length ≤ i) : flat Ls i = Ls.flatten := by unfold flat; rw [List.take_of_length_le h]
theorem ints_ones {l : List Int} : ∀ r ∈ ints l, r.length = 1 := by
  intro r hr
  obtain ⟨x, _, rfl⟩ := List.mem_map.1 hr
  rfl
def RConcat (xs : List AV) (r : AV) (objs : List AObj) : Prop := ∃ Ls, xs = [.val (rowsL Ls)] ∧ 0 < Ls.length ∧ Ls.length ≤ 1000 ∧ Ls.flatten.length ≤ 1000000 ∧ r = .ref 0 0 Ls.flatten.length ∧ objs = [.arr 1 (ints Ls.flatten)]
theorem RConcat_eq {xs : List AV} {Ls : List (List Int)} (hx : xs = [.val (rowsL Ls)]) (h0 : 0 < Ls.length) (h1 : Ls.length ≤ 1000) (h2 : Ls.flatten.length ≤ 1000000) : RConcat xs (.ref 0 0 Ls.flatten.length) [.arr 1 (ints Ls.flatten)] := ⟨Ls, hx, h0, h1, h2, rfl, rfl⟩
set_option maxHeartbeats 1000000 in
theorem s_slices_Concat : PureSound Try.prog 107 RConcat := by
  have hR : Rely Try.prog (ctxOf [(179, .gen 0 GGrow)]) := rely_cons b_slices_Grow_int_int.has s_slices_Grow (rely_nil mixed)
  refine pure_of_aw b_slices_Concat_int_int ?_
  rintro xs r objs ⟨Ls, rfl, h0, h1, h2, rfl, rfl⟩ -
  have hrl := length_rowsL Ls
  have hfl := flat_all (Nat.le_refl Ls.length)
  refine ⟨by simp, vc2_sound hR _ _ _ _ _ ?_⟩
  conv => whnf
  repeat' ((first | contradiction | (refine And.intro (fun hb => ?_) (fun hb => ?_) <;> first | contradiction | ((try simp only [SB, reduceCtorEq] at hb); try (exfalso; first | contradiction | omega))) | refine G2 ?_ | rw [ints_at (by omega)] | rw [ints_at0 (by omega)] | rw [ints_at' (by omega) (by omega)] | refine G1 ?_ | fail) <;> conv => whnf)
  refine Lp.intro (α := Nat) (fun i => i ≤ Ls.length) (fun i => Ls.length - i) (fun i => [(0, .val (rowsL Ls)), (3, .int .i64 ((flat Ls i).length : Nat)), (9, .val (rowsL Ls)), (10, .int .i64 Ls.length), (11, .int .i64 i)]) (fun _ => []) ?_ ?_
  · refine ⟨0, by omega, [], rfl, rfl, trivial, ?_⟩
    exact ⟨.inl rfl, .inl rfl, .inl rfl, .inl (congrArg (fun x : Nat => AV.int .i64 x) hrl), .inl rfl, trivial⟩
  intro i hi
  have hlf := flat_le (Ls := Ls) hi
  rw [hfl] at hlf
  refine vc2_sound hR _ _ _ _ _ ?_
  by_cases hlt : i < Ls.length
  · have hs := congrArg List.length (flat_succ hlt)
    have hlf2 := flat_le (Ls := Ls) (show i + 1 ≤ Ls.length by omega)
    rw [hfl, hs, List.length_append] at hlf2
    rw [List.length_append] at hs
    have hil := length_ints (Ls.getD i [])
    conv => whnf
    repeat' ((first | contradiction | (refine And.intro (fun hb => ?_) (fun hb => ?_) <;> first | contradiction | ((try simp only [SB, reduceCtorEq] at hb); try (exfalso; first | contradiction | omega))) | refine G2 ?_ | rw [ints_at (by omega)] | rw [ints_at0 (by omega)] | rw [ints_at' (by omega) (by omega)] | refine G1 ?_ | rw [rowsL_at hlt] | fail) <;> conv => whnf)
    refine ⟨i + 1, by omega, by omega, [], rfl, rfl, trivial, ?_⟩
    exact ⟨.inl rfl, .inl (congrArg (AV.int .i64) (by (try dsimp only); omega)), .inl rfl, .inl rfl, .inl rfl, trivial⟩
  obtain rfl : i = Ls.length := by omega
  rw [hfl]
  conv => whnf
  repeat' ((first | contradiction | (refine And.intro (fun hb => ?_) (fun hb => ?_) <;> first | contradiction | ((try simp only [SB, reduceCtorEq] at hb); try (exfalso; first | contradiction | omega))) | refine G2 ?_ | rw [ints_at (by omega)] | rw [ints_at0 (by omega)] | rw [ints_at' (by omega) (by omega)] | refine G1 ?_ | refine ⟨GGrow_mk (n := Ls.flatten.length) (by omega) ?_⟩ | fail) <;> conv => whnf)
  refine Lp.intro (α := Nat × List (List AV)) (fun c => c.1 ≤ Ls.length ∧ c.2.take (flat Ls c.1).length = ints (flat Ls c.1) ∧ (flat Ls c.1).length ≤ c.2.length ∧ (0 < c.1 → c.2 = ints (flat Ls c.1))) (fun c => Ls.length - c.1) (fun c => [(6, .ref 0 0 (flat Ls c.1).length), (25, .val (rowsL Ls)), (26, .int .i64 Ls.length), (27, .int .i64 c.1)]) (fun c => [some (.arr 1 c.2)]) ?_ ?_
  · refine ⟨(0, List.replicate Ls.flatten.length [.int .i64 0]), ⟨Nat.zero_le _, rfl, Nat.zero_le _, fun h => by simp at h⟩, [some 0], rfl, rfl, And.intro (And.intro rfl rfl) trivial, ?_⟩
    exact ⟨rfl, .inl rfl, .inl (congrArg (fun x : Nat => AV.int .i64 x) hrl), .inl rfl, trivial⟩
  rintro ⟨i, X⟩ ⟨hi, hX, hXl, hX1⟩
  dsimp only at hi hX hXl hX1 ⊢
  have hlf := flat_le (Ls := Ls) hi
  rw [hfl] at hlf
  refine vc2_sound hR _ _ _ _ _ ?_
  by_cases hlt : i < Ls.length
  · have hs := congrArg List.length (flat_succ hlt)
    have hlf2 := flat_le (Ls := Ls) (show i + 1 ≤ Ls.length by omega)
    rw [hfl, hs, List.length_append] at hlf2
    rw [List.length_append] at hs
    have hil := length_ints (Ls.getD i [])
    conv => whnf
    repeat' ((first | contradiction | (refine And.intro (fun hb => ?_) (fun hb => ?_) <;> first | contradiction | ((try simp only [SB, reduceCtorEq] at hb); try (exfalso; first | contradiction | omega))) | refine G2 ?_ | rw [ints_at (by omega)] | rw [ints_at0 (by omega)] | rw [ints_at' (by omega) (by omega)] | refine G1 ?_ | rw [rowsL_at hlt] | refine And.intro ints_ones ?_ | fail) <;> conv => whnf)
    have hnew : List.take (flat Ls i).length X ++ ints (Ls.getD i []) = ints (flat Ls (i + 1)) := by rw [hX, flat_succ hlt]; simp [ints]
    refine ⟨(i + 1, ints (flat Ls (i + 1))), ⟨hlt, List.take_of_length_le (by simp [ints]), by simp [ints], fun _ => rfl⟩, by dsimp only; omega, [some 1], rfl, rfl, And.intro (And.intro rfl hnew) trivial, ?_⟩
    exact ⟨congrArg (AV.ref 1 0) (by (try dsimp only); omega), .inl rfl, .inl rfl, .inl rfl, trivial⟩
  · obtain rfl : i = Ls.length := by omega
    conv => whnf
    repeat' ((first | contradiction | (refine And.intro (fun hb => ?_) (fun hb => ?_) <;> first | contradiction | ((try simp only [SB, reduceCtorEq] at hb); try (exfalso; first | contradiction | omega))) | refine G2 ?_ | rw [ints_at (by omega)] | rw [ints_at0 (by omega)] | rw [ints_at' (by omega) (by omega)] | refine G1 ?_ | fail) <;> conv => whnf)
    refine ⟨.inl rfl, ?_⟩
    conv => whnf
    have e := hX1 h0
    subst e
    rw [hfl]
    exact ⟨[some 0], ⟨rfl, And.intro (And.intro rfl rfl) trivial⟩, rfl, rfl, by simp [AObj.nov, ints_nov]⟩
/-! ### the word -/
theorem autoR_lt {a : AutoD} {X : Nat} : autoR a X < 2 ^ 31 := bitsOf_lt
def EWay (a : AutoD) : Nat → List EdgeD → Nat → Prop
  | p, [], q => p = q
  | p, e :: es, q => e ∈ a.edges ∧ e.src.toNat = p ∧ EWay a e.dst.toNat es q
theorem EWay.snoc {a : AutoD} {e : EdgeD} {q : Nat} : ∀ {es : List EdgeD} {p : Nat}, EWay a p es e.src.toNat → e ∈ a.edges → e.dst.toNat = q → EWay a p (es ++ [e]) q
  | [], p, h, he, hq => ⟨he, h.symm, hq⟩
  | x :: es, p, h, he, hq => ⟨h.1, h.2.1, EWay.snoc h.2.2 he hq⟩
theorem Pt.way {a : AutoD} {F : List Int} {b X0 k X : Nat} {out : List Nat} (h : Pt a F b X0 k X out) : ∀ q, X.testBit q = true → ∃ p es, X0.testBit p = true ∧ EWay a p es q ∧ es.map (·.letter) = natsI out := by
  induction h with
  | start => exact fun q hq => ⟨q, [], hq, rfl, rfl⟩
  | @step k X x out h1 h2 h3 ih =>
    intro q hq
    unfold down at hq
    rw [Nat.testBit_and, Bool.and_eq_true, bit_stepU] at hq
    obtain ⟨⟨e, he, g1, g2, g3⟩, _⟩ := hq
    obtain ⟨p, es, k1, k2, k3⟩ := ih _ g2
    exact ⟨p, es ++ [e], k1, k2.snoc he g3, by simp [k3, g1, natsI]⟩
theorem mem_edge_in {a : AutoD} (ha : AutoOk a) {e : EdgeD} (he : e ∈ a.edges) : EdgeIn a e := by
  obtain ⟨k, hk, rfl⟩ := List.getElem_of_mem he
  have := edge_in ha hk
  rwa [List.getD_eq_getElem?_getD, List.getElem?_eq_getElem hk] at this
theorem start_lt2 {a : AutoD} (ha : AutoOk a) : a.start.toNat < 2 ^ a.states.toNat := gstart_lt (g := genOfD a) (genOf_ok ha)
def plc (X v : Nat) : Nat := (bitL X v).length
theorem plc_succ {X v : Nat} : plc X (v + 1) = if X.testBit v = true then plc X v + 1 else plc X v := by
  unfold plc
  rw [bitL_succ]
  split <;> simp
theorem plc_mono {X u v : Nat} (h : u ≤ v) : plc X u ≤ plc X v := by
  induction v with
  | zero => rw [show u = 0 by omega]; exact Nat.le_refl _
  | succ v ih =>
    by_cases he : u = v + 1
    · rw [he]; exact Nat.le_refl _
    · refine Nat.le_trans (ih (by omega)) ?_
      rw [plc_succ]
      split <;> omega
theorem plc_lt {X u v : Nat} (hu : X.testBit u = true) (h : u < v) : plc X u < plc X v := by
  have h1 : plc X (u + 1) ≤ plc X v := plc_mono h
  rw [plc_succ, if_pos hu] at h1
  omega
theorem plc_at {X v : Nat} : ∀ {n : Nat}, X.testBit v = true → v < n → (bitL X n).getD (plc X v) 0 = v
  | 0, _, h => by omega
  | n + 1, hb, h => by
    rw [bitL_succ]
    by_cases hv : v = n
    · subst hv
      rw [if_pos hb]
      unfold plc
      rw [List.getD_eq_getElem?_getD, List.getElem?_append_right (Nat.le_refl _), Nat.sub_self]
      rfl
    · have h1 : plc X v < (bitL X n).length := plc_lt hb (by omega)
      rw [List.getD_eq_getElem?_getD, List.getElem?_append, if_pos h1, ← List.getD_eq_getElem?_getD]
      exact plc_at hb (by omega)
theorem mem_at_bitL {X n i : Nat} (h : i < (bitL X n).length) : X.testBit ((bitL X n).getD i 0) = true ∧ (bitL X n).getD i 0 < n := by
  have : (bitL X n).getD i 0 ∈ bitL X n := by
    rw [List.getD_eq_getElem?_getD, List.getElem?_eq_getElem h]
    exact List.getElem_mem h
  have := mem_bitL.1 this
  exact ⟨this.2, this.1⟩
def keepE (X : Nat) (e : EdgeD) : EdgeD := ⟨((plc X e.src.toNat : Nat) : Int), e.letter, ((plc X e.dst.toNat : Nat) : Int), e.mark⟩
def inX (X : Nat) (e : EdgeD) : Bool := X.testBit e.src.toNat && X.testBit e.dst.toNat
noncomputable def startK (a : AutoD) (X i : Nat) : Nat := bitsOf (fun i => a.start.toNat.testBit ((bitL X a.states.toNat).getD i 0) = true) i
noncomputable def keepD (a : AutoD) (X : Nat) : AutoD :=
  ⟨a.letters, (((bitL X a.states.toNat).length : Nat) : Int), ((startK a X (bitL X a.states.toNat).length : Nat) : Int), (a.edges.filter (inX X)).map (keepE X)⟩
theorem mem_keep {a : AutoD} {X : Nat} {e : EdgeD} : e ∈ (keepD a X).edges ↔ ∃ d ∈ a.edges, inX X d = true ∧ keepE X d = e := by
  show e ∈ (a.edges.filter (inX X)).map (keepE X) ↔ _
  simp only [List.mem_map, List.mem_filter]
  constructor
  · rintro ⟨d, ⟨h1, h2⟩, h3⟩; exact ⟨d, h1, h2, h3⟩
  · rintro ⟨d, h1, h2, h3⟩; exact ⟨d, ⟨h1, h2⟩, h3⟩
theorem keep_edge {a : AutoD} (ha : AutoOk a) {X : Nat} {d : EdgeD} (hd : d ∈ a.edges) (hx : inX X d = true) : X.testBit d.src.toNat = true ∧ X.testBit d.dst.toNat = true ∧ d.src.toNat < a.states.toNat ∧ d.dst.toNat < a.states.toNat ∧ EdgeIn a d := by
  unfold inX at hx
  rw [Bool.and_eq_true] at hx
  have h := mem_edge_in ha hd
  have h2 := h
  unfold EdgeIn at h
  exact ⟨hx.1, hx.2, by omega, by omega, h2⟩
theorem pair_sorted {a : AutoD} (ha : AutoOk a) : a.edges.Pairwise fun x y => edgeLess x y = true := by
  rw [List.pairwise_iff_getElem]
  intro i j hi hj hij
  have := edges_sorted ha hij hj
  rwa [List.getD_eq_getElem?_getD, List.getD_eq_getElem?_getD, List.getElem?_eq_getElem hi, List.getElem?_eq_getElem hj] at this
theorem keep_ok {a : AutoD} (ha : AutoOk a) {X : Nat} : AutoOk (keepD a X) := by
  have hlen : (bitL X a.states.toNat).length ≤ a.states.toNat := bitL_len
  have hst := ha.1.2.1
  have hsl : startK a X (bitL X a.states.toNat).length < 2 ^ (bitL X a.states.toNat).length := bitsOf_lt
  have h31 : 2 ^ (bitL X a.states.toNat).length ≤ 2 ^ 31 := Nat.pow_le_pow_right (by decide) (by omega)
  refine ⟨⟨ha.1.1, ?_, ?_⟩, ?_, ?_⟩
  · show (0 : Int) ≤ (((bitL X a.states.toNat).length : Nat) : Int) ∧ (((bitL X a.states.toNat).length : Nat) : Int) ≤ 31
    omega
  · show (0 : Int) ≤ ((startK a X (bitL X a.states.toNat).length : Nat) : Int) ∧ ((startK a X (bitL X a.states.toNat).length : Nat) : Int) ≤ 2147483647 ∧ ((startK a X (bitL X a.states.toNat).length : Nat) : Int) < 2 ^ ((((bitL X a.states.toNat).length : Nat) : Int)).toNat
    rw [Int.toNat_natCast]
    refine ⟨by omega, by omega, ?_⟩
    have := natPow (bitL X a.states.toNat).length
    omega
  · show ((a.edges.filter (inX X)).map (keepE X)).length ≤ 2000
    rw [List.length_map]
    exact Nat.le_trans (List.length_filter_le _ _) ha.2.1
  · intro i hi
    have hp : ((a.edges.filter (inX X)).map (keepE X)).Pairwise fun x y => edgeLess x y = true := by
      rw [List.pairwise_map]
      have hq := (pair_sorted ha).filter (inX X)
      refine List.Pairwise.imp_of_mem ?_ hq
      intro x y hx hy hxy
      have hx' := List.mem_filter.1 hx
      have hy' := List.mem_filter.1 hy
      obtain ⟨x1, x2, x3, x4, x5⟩ := keep_edge ha hx'.1 hx'.2
      obtain ⟨y1, y2, y3, y4, y5⟩ := keep_edge ha hy'.1 hy'.2
      unfold EdgeIn at x5 y5
      rw [edgeLess_iff] at hxy ⊢
      unfold keepE
      dsimp only
      have hs : x.src < y.src → plc X x.src.toNat < plc X y.src.toNat := fun h => plc_lt x1 (by omega)
      have ht : x.dst < y.dst → plc X x.dst.toNat < plc X y.dst.toNat := fun h => plc_lt x2 (by omega)
      rcases hxy with h | ⟨h, h2 | ⟨h2, h3⟩⟩
      · have := hs h; omega
      · rw [h]; omega
      · have := ht h3; rw [h]; omega
    have hi' : i < ((a.edges.filter (inX X)).map (keepE X)).length := hi
    refine ⟨?_, fun h0 => ?_⟩
    · have hm : (keepD a X).edges.getD i default ∈ (keepD a X).edges := getD_mem' hi
      obtain ⟨d, h1, h2, h3⟩ := mem_keep.1 hm
      rw [← h3]
      obtain ⟨x1, x2, x3, x4, x5⟩ := keep_edge ha h1 h2
      unfold EdgeIn at x5 ⊢
      have p1 : plc X d.src.toNat < (bitL X a.states.toNat).length := plc_lt x1 x3
      have p2 : plc X d.dst.toNat < (bitL X a.states.toNat).length := plc_lt x2 x4
      show ((0 : Int) ≤ ((plc X d.src.toNat : Nat) : Int) ∧ ((plc X d.src.toNat : Nat) : Int) ≤ (((bitL X a.states.toNat).length : Nat) : Int) - 1) ∧ ((0 : Int) ≤ ((plc X d.dst.toNat : Nat) : Int) ∧ ((plc X d.dst.toNat : Nat) : Int) ≤ (((bitL X a.states.toNat).length : Nat) : Int) - 1) ∧ (0 ≤ d.letter ∧ d.letter ≤ a.letters - 1)
      omega
    · have := (List.pairwise_iff_getElem.1 hp) (i - 1) i (by omega) hi' (by omega)
      show edgeLess (((a.edges.filter (inX X)).map (keepE X)).getD (i - 1) default) (((a.edges.filter (inX X)).map (keepE X)).getD i default) = true
      rw [List.getD_eq_getElem?_getD, List.getD_eq_getElem?_getD, List.getElem?_eq_getElem hi', List.getElem?_eq_getElem (show i - 1 < ((a.edges.filter (inX X)).map (keepE X)).length by omega)]
      exact this
theorem keep_takes {a : AutoD} (ha : AutoOk a) {X : Nat} {s l : List Int} (h : ∀ q e, RunA a (seqN s l) q e → ∀ i, X.testBit (q i) = true) : TakesA (keepD a X) s l ↔ TakesA a s l := by
  have hk := keep_ok (X := X) ha
  rw [takesA_iff, takesA_iff]
  have hlet : (keepD a X).letters = a.letters := rfl
  rw [hlet]
  constructor
  · rintro ⟨_, hw, q, e, hr⟩
    refine ⟨ha, hw, ?_⟩
    have hex : ∀ i, ∃ d, d ∈ a.edges ∧ inX X d = true ∧ keepE X d = e i := fun i => by
      obtain ⟨d, h1, h2, h3⟩ := mem_keep.1 (hr.edge i)
      exact ⟨d, h1, h2, h3⟩
    obtain ⟨f, hf⟩ := Classical.axiomOfChoice hex
    have hsrc : ∀ i, (bitL X a.states.toNat).getD (q i) 0 = (f i).src.toNat := fun i => by
      obtain ⟨h1, h2, h3⟩ := hf i
      obtain ⟨x1, x2, x3, x4, x5⟩ := keep_edge ha h1 h2
      rw [← hr.src i, ← h3]
      show (bitL X a.states.toNat).getD (((plc X (f i).src.toNat : Nat) : Int)).toNat 0 = _
      rw [Int.toNat_natCast, plc_at x1 x3]
    have hdst : ∀ i, (bitL X a.states.toNat).getD (q (i + 1)) 0 = (f i).dst.toNat := fun i => by
      obtain ⟨h1, h2, h3⟩ := hf i
      obtain ⟨x1, x2, x3, x4, x5⟩ := keep_edge ha h1 h2
      rw [← hr.dst i, ← h3]
      show (bitL X a.states.toNat).getD (((plc X (f i).dst.toNat : Nat) : Int)).toNat 0 = _
      rw [Int.toNat_natCast, plc_at x2 x4]
    refine ⟨fun i => (bitL X a.states.toNat).getD (q i) 0, f, ⟨?_, fun i => (hf i).1, fun i => ?_, fun i => (hsrc i).symm, fun i => (hdst i).symm, fun i => ?_⟩⟩
    · have h0 : ((startK a X (bitL X a.states.toNat).length : Nat) : Int).toNat.testBit (q 0) = true := hr.start
      rw [Int.toNat_natCast] at h0
      unfold startK at h0
      rw [testBit_bitsOf] at h0
      exact h0.2
    · rw [← hr.letter i, ← (hf i).2.2]; rfl
    · obtain ⟨j, hj, hm⟩ := hr.mark i
      refine ⟨j, hj, ?_⟩
      rw [← (hf j).2.2] at hm
      exact hm
  · rintro ⟨_, hw, q, e, hr⟩
    have hX := h q e hr
    have hin : ∀ i, inX X (e i) = true := fun i => by
      unfold inX
      rw [hr.src i, hr.dst i, hX i, hX (i + 1)]
      rfl
    refine ⟨hk, hw, fun i => plc X (q i), fun i => keepE X (e i), ⟨?_, fun i => mem_keep.2 ⟨e i, hr.edge i, hin i, rfl⟩, fun i => hr.letter i, fun i => ?_, fun i => ?_, fun i => ?_⟩⟩
    · show ((startK a X (bitL X a.states.toNat).length : Nat) : Int).toNat.testBit (plc X (q 0)) = true
      rw [Int.toNat_natCast]
      unfold startK
      rw [testBit_bitsOf]
      have hl := runA_lt ha hr 0
      refine ⟨plc_lt (hX 0) hl, ?_⟩
      rw [plc_at (hX 0) hl]
      exact hr.start
    · show (((plc X (e i).src.toNat : Nat) : Int)).toNat = plc X (q i)
      rw [Int.toNat_natCast, hr.src i]
    · show (((plc X (e i).dst.toNat : Nat) : Int)).toNat = plc X (q (i + 1))
      rw [Int.toNat_natCast, hr.dst i]
    · obtain ⟨j, hj, hm⟩ := hr.mark i
      exact ⟨j, hj, hm⟩

theorem edges_take {l : List EdgeD} {i : Nat} (hi : i < l.length) : l.take (i + 1) = l.take i ++ [l.getD i default] := by
  rw [List.take_add_one, List.getElem?_eq_getElem hi, Option.toList_some, List.getD_eq_getElem?_getD, List.getElem?_eq_getElem hi, Option.getD_some]
end Go.Proofs.Ythanhknkoikbfaa.Ct
namespace Go.Proofs.Ythanhknkoikbfaa.Ct
open Go Go.Proofs Go.Proofs.Ythanhknkoikbfaa.Av
def ixE (l n : Nat) (e : EdgeD) : Nat := (e.src.toNat * l + e.letter.toNat) * n + e.dst.toNat
def ofIx (l n i : Nat) (m : Bool) : EdgeD := ⟨((i / n / l : Nat) : Int), ((i / n % l : Nat) : Int), ((i % n : Nat) : Int), m⟩
def markN (l n : Nat) (es : List EdgeD) (i : Nat) : Nat := if es.any (fun e => ixE l n e == i && e.mark) then 2 else if es.any (fun e => ixE l n e == i) then 1 else 0
def cellE (l n : Nat) (es : List EdgeD) (i : Nat) : List EdgeD := if 0 < markN l n es i then [ofIx l n i (markN l n es i == 2)] else []
def mkEs (l n : Nat) (es : List EdgeD) (k : Nat) : List EdgeD := (List.range k).flatMap (cellE l n es)
theorem mkEs_succ {l n : Nat} {es : List EdgeD} {k : Nat} : mkEs l n es (k + 1) = mkEs l n es k ++ cellE l n es k := by simp [mkEs, List.range_succ]
def mkAll (l n : Nat) (es : List EdgeD) : List EdgeD := mkEs l n es (n * l * n)
theorem ixE_lt {l n : Nat} {e : EdgeD} (h1 : e.src.toNat < n) (h2 : e.letter.toNat < l) (h3 : e.dst.toNat < n) : ixE l n e < n * l * n := by
  unfold ixE
  have a1 : e.src.toNat * l + e.letter.toNat + 1 ≤ n * l := by
    have := Nat.mul_le_mul_right l (show e.src.toNat + 1 ≤ n by omega)
    rw [Nat.add_mul, Nat.one_mul] at this
    omega
  have a2 := Nat.mul_le_mul_right n a1
  rw [Nat.add_mul (_ + _), Nat.one_mul] at a2
  omega
def markE (k : Int) (i : Nat) : EdgeD := ⟨k + 4 * i, k + 4 * i + 1, k + 4 * i + 2, (k + 4 * i + 3).tmod 3 == 0⟩
def marksE (k : Int) (n : Nat) : List EdgeD := (List.range n).map (markE k)
@[simp] theorem length_marksE (k : Int) (n : Nat) : (marksE k n).length = n := by simp [marksE]
def autoRef (o : Nat) (a : AutoD) : List AV := [.int .i64 a.letters, .int .i64 a.states, .int .i64 a.start, .ref o 0 a.edges.length]
theorem snap_auto {h : Heap} {id : Nat} {a : AutoD} (ho : h id = some (.arr 4 (edgeRows a.edges))) : (AV.agg (autoRef id a)).snap h = .agg (autoRow a) :=
  snap_agg (cells_cons rfl (cells_cons rfl (cells_cons rfl (cells_cons (snap1_all ho (length_edgeRows _)) rfl))))
theorem snap_auto2 {h h2 : Heap} {id : Nat} {a : AutoD} (ho : h2 id = some (.arr 4 (edgeRows a.edges))) : (AV.agg ((autoRef id a).map (AV.snap1 h2))).snap h = .agg (autoRow a) :=
  snap_agg (cells_cons rfl (cells_cons rfl (cells_cons rfl (cells_cons (snap1_all2 ho (length_edgeRows _)) rfl))))
end Go.Proofs.Ythanhknkoikbfaa.Ct
