/- Part 6 of the proof of FnRunSaid: CtComps to CtHas. Conditions: none. -/
import Derived.Test.YthanhknkoikbfaaT5
import Derived.Test.YthanhknkoikbfaaT1
import Derived.Test.YthanhknkoikbfaaT4
set_option linter.unusedSimpArgs false
set_option linter.unusedVariables false
namespace Go.Proofs.Ythanhknkoikbfaa.Ct
open Go Go.Proofs Go.Proofs.Ythanhknkoikbfaa.Av Go.Proofs.Ythanhknkoikbfaa.Pl
def c_spec_l6Comps : ICode := (.seq (.reg [O1 2 (.box 5) 0, O1 3 (.box 2) 1, Ol 4 .mv [.c .snil]]) (.seq (.reg [O1 15 (.ldn 5) 2, Ol 16 (.call 170) [.t 15, cb false], O1 5 .mv 16]) (.seq (.reg [O1 17 (.ldn 2) 3, O1 18 (.call 91) 17, O1 6 .mv 18]) (.seq (.reg [O1 19 .mv 6, O2 20 (.mks 1 8 [(.int .i64 0)]) 19 19, O1 7 .mv 20]) (.seq (.reg [O1 21 .mv 7, O1 22 (.fadr 2) 2, O1 23 .ld1 22, Ol 24 (.iadr 1) [.t 21, ci 0], S2 (.st 1) 24 23]) (.seq (.reg [O1 25 .mv 5, O1 26 (.ldn 2) 3, O1 27 .mv 7, O3 28 (.call 171) 25 26 27, O1 8 .mv 28]) (.seq (.reg [O0 29 .bsle, O1 9 .mv 29]) (.seq (.reg [O0 30 .bsle, O1 10 .mv 30]) (.seq (.seq (.reg [Ol 11 .mv [ci 0]]) (.block 0 (.loop (.seq (.seq (.reg [O1 31 .mv 11, O1 32 .mv 6, O1 33 (.fadr 1) 2, O1 34 .ld1 33, O2 35 (.bin .mul) 32 34, O2 36 (.bin .lss) 31 35]) (.cond (.t 36) .skip (.exit 0))) (.seq (.block 1 (.seq (.reg [O1 39 .mv 9, Ol 40 (.bslv 1) [ci (-1)], O2 41 (.app 1 8) 39 40, O1 9 .mv 41]) (.seq (.reg [O1 42 .mv 6, O2 43 (.mks 1 8 [(.int .i64 0)]) 42 42, O1 12 .mv 43]) (.seq (.seq (.drw [O1 44 .mv 8, O1 45 .mv 11, O1 46 (.fadr 1) 2, O1 47 .ld1 46, O2 48 (.bin .quo) 45 47, O2 49 (.iadr 1) 44 48, O1 50 .ld1 49, O1 51 .mv 11, O1 52 (.fadr 1) 2, O1 53 .ld1 52, O2 54 (.bin .rem) 51 53, O2 55 (.call 73) 50 54] (unB [0, 0, 0, 4, 14, 31, 63, 0, 0, 256, 896, 2047] 0) true true) (.cond (.t 55) (.seq (.drw [O1 56 .mv 12, O1 57 .mv 11, O1 58 (.fadr 1) 2, O1 59 .ld1 58, O2 60 (.bin .quo) 57 59, O1 61 .mv 11, O1 62 (.fadr 1) 2, O1 63 .ld1 62, O2 64 (.bin .rem) 61 63, O1 65 (.call 123) 64, O2 66 (.iadr 1) 56 60, S2 (.st 1) 66 65] (unB [0, 0, 0, 4, 14, 0, 0, 64, 224, 480, 1023, 2047] 0) true true) (.reg [O1 67 .mv 5, O1 68 (.ldn 2) 3, O1 69 .mv 12, O3 70 (.call 171) 67 68 69, O1 12 .mv 70])) .skip)) (.reg [O1 71 .mv 10, O1 72 .mv 12, O1 73 (.bslv 1) 72, O2 74 (.app 1 24) 71 73, O1 10 .mv 74]))))) (.reg [O1 37 .mv 11, Ol 38 (.bin .add) [.t 37, ci 1], O1 11 .mv 38])))))) (.seq (.seq (.reg [Ol 13 .mv [ci 0]]) (.block 2 (.loop (.seq (.seq (.reg [O1 75 .mv 13, O1 76 .mv 9, O1 77 .len 76, O2 78 (.bin .lss) 75 77]) (.cond (.t 78) .skip (.exit 2))) (.seq (.block 3 (.seq (.seq (.drw [O1 81 .mv 9, O1 82 .mv 13, O2 83 (.iadr 1) 81 82, O1 84 .ld1 83, Ol 85 (.bin .geq) [.t 84, ci 0], O1 86 .mv 85, Og 87 .mv [.t 8] 86 false, Og 88 .mv [.t 13] 86 false, Og 89 (.fadr 1) [.t 2] 86 false, Og 90 .ld1 [.t 89] 86 false, Og 91 (.bin .quo) [.t 88, .t 90] 86 false, Og 92 (.iadr 1) [.t 87, .t 91] 86 false, Og 93 .ld1 [.t 92] 86 false, Og 94 .mv [.t 13] 86 false, Og 95 (.fadr 1) [.t 2] 86 false, Og 96 .ld1 [.t 95] 86 false, Og 97 (.bin .rem) [.t 94, .t 96] 86 false, Og 98 (.call 73) [.t 93, .t 97] 86 false, Og 99 .not [.t 98] 86 false, Ol 100 .pick [.t 86, cb true, .t 99]] (unB [0, 0, 3, 7, 15, 31, 63, 63, 63, 319, 959, 2047, 4095, 63, 63, 16447, 57407, 131071, 262143, 524287] 0) true true) (.cond (.t 100) (.exit 3) .skip)) (.seq (.reg [O1 101 .mv 13, O1 14 .mv 101]) (.block 4 (.loop (.seq (.seq (.reg [O1 102 .mv 14, O1 103 .mv 9, O1 104 .len 103, O2 105 (.bin .lss) 102 104]) (.cond (.t 105) .skip (.exit 4))) (.seq (.block 5 (.seq (.drw [O1 108 .mv 10, O1 109 .mv 13, O2 110 (.iadr 1) 108 109, O1 111 .ld1 110, O1 112 .mv 14, O1 113 (.fadr 1) 2, O1 114 .ld1 113, O2 115 (.bin .quo) 112 114, O2 116 (.iadr 1) 111 115, O1 117 .ld1 116, O1 118 .mv 14, O1 119 (.fadr 1) 2, O1 120 .ld1 119, O2 121 (.bin .rem) 118 120, O2 122 (.call 73) 117 121, O1 123 .mv 122, Og 124 .mv [.t 10] 123 true, Og 125 .mv [.t 14] 123 true, Og 126 (.iadr 1) [.t 124, .t 125] 123 true, Og 127 .ld1 [.t 126] 123 true, Og 128 .mv [.t 13] 123 true, Og 129 (.fadr 1) [.t 2] 123 true, Og 130 .ld1 [.t 129] 123 true, Og 131 (.bin .quo) [.t 128, .t 130] 123 true, Og 132 (.iadr 1) [.t 127, .t 131] 123 true, Og 133 .ld1 [.t 132] 123 true, Og 134 .mv [.t 13] 123 true, Og 135 (.fadr 1) [.t 2] 123 true, Og 136 .ld1 [.t 135] 123 true, Og 137 (.bin .rem) [.t 134, .t 136] 123 true, Og 138 (.call 73) [.t 133, .t 137] 123 true, Ol 139 .pick [.t 123, .t 138, cb false]] (unB [0, 0, 3, 7, 0, 0, 32, 112, 255, 511, 0, 0, 2048, 7168, 16383, 32767, 65535, 65535, 262143, 524287, 65535, 65535, 2162687, 7405567, 16777215, 33554431, 65535, 65535, 134283263, 469827583, 1073741823, 2147483647] 0) true true) (.cond (.t 139) (.reg [O1 140 .mv 9, O1 141 .mv 14, O1 142 .mv 13, O2 143 (.iadr 1) 140 141, S2 (.st 1) 143 142]) .skip))) (.reg [O1 106 .mv 14, Ol 107 (.bin .add) [.t 106, ci 1], O1 14 .mv 107])))))))) (.reg [O1 79 .mv 13, Ol 80 (.bin .add) [.t 79, ci 1], O1 13 .mv 80])))))) (.seq (.reg [O1 144 .mv 9, O1 4 .mv 144]) .ret)))))))))))
theorem b_spec_l6Comps : Body Try.prog 99 145 c_spec_l6Comps [(.t 4)] := body_mk Try.func99 (by kernel_rfl) (by decide)
noncomputable def begL (g : GenD) (s l : List Int) : List Nat := fromL g s l (oneS (s.length + l.length) 0 g.start.toNat)
def Beg (g : GenD) (s l : List Int) (x : Nat) : Prop := AtS g (begL g s l) x
noncomputable def inR (g : GenD) (s l : List Int) (x : Nat) : List Nat := open Classical in if Beg g s l x then fromL g s l (oneS (s.length + l.length) (x / g.states.toNat) (2 ^ (x % g.states.toNat))) else List.replicate (s.length + l.length) 0
noncomputable def inOwns (g : GenD) (s l : List Int) (x : Nat) : List (List AV) := (List.range x).map fun x => [.own 1 (ints (natsI (inR g s l x)))]
noncomputable def inRows (g : GenD) (s l : List Int) (x : Nat) : List (List AV) := (List.range x).map fun x => [.val (ints (natsI (inR g s l x)))]
@[simp] theorem length_fromL (g : GenD) (s l : List Int) (S : List Nat) : (fromL g s l S).length = s.length + l.length := by simp [fromL]
@[simp] theorem length_inR (g : GenD) (s l : List Int) (x : Nat) : (inR g s l x).length = s.length + l.length := by unfold inR; split <;> simp
@[simp] theorem length_inOwns (g : GenD) (s l : List Int) (x : Nat) : (inOwns g s l x).length = x := by simp [inOwns]
@[simp] theorem length_inRows (g : GenD) (s l : List Int) (x : Nat) : (inRows g s l x).length = x := by simp [inRows]
theorem thaw_in (g : GenD) (s l : List Int) (x : Nat) : (inOwns g s l x).map (List.map AV.thaw) = inRows g s l x := by simp [inOwns, inRows, AV.thaw]
theorem inRows_at {g : GenD} {s l : List Int} {x i : Nat} (h : i < x) : (inRows g s l x)[((i : Nat) : Int).toNat]? = some [.val (ints (natsI (inR g s l i)))] := by
  simp [inRows, h]
theorem snap_in {h : Heap} {id : Nat} {g : GenD} {s l : List Int} {x : Nat} (ho : h id = some (.nst 1 (inOwns g s l x))) : (AV.ref id 0 x).snap h = .val (inRows g s l x) := by
  have e : sub (inOwns g s l x) 0 x = inOwns g s l x := by
    unfold sub
    rw [List.drop_zero, List.take_of_length_le (by simp)]
  simp only [AV.snap, AV.snap1, ho, Nat.zero_add, length_inOwns, Nat.le_refl, if_true, e, thaw_in]
theorem inOwns_succ {g : GenD} {s l : List Int} {x : Nat} : inOwns g s l (x + 1) = inOwns g s l x ++ [[.own 1 (ints (natsI (inR g s l x)))]] := by simp [inOwns, List.range_succ]
theorem inOwns_sealed (g : GenD) (s l : List Int) (x : Nat) : ∀ row ∈ inOwns g s l x, ∀ c ∈ row, c.sealed = true := by
  intro row hr c hc
  obtain ⟨y, _, rfl⟩ := List.mem_map.1 hr
  simp at hc
  subst hc; rfl
theorem fromL_lt {g : GenD} {s l : List Int} {S : List Nat} (p : Nat) : (fromL g s l S).getD p 0 < 2 ^ 31 := by
  by_cases hp : p < s.length + l.length
  · have e : (fromL g s l S).getD p 0 = bitsOf (PtR g s l S p) 31 := by simp [fromL, List.getD_eq_getElem?_getD, hp]
    rw [e]; exact bitsOf_lt
  · rw [List.getD_eq_getElem?_getD, List.getElem?_eq_none (by simp; omega)]
    exact Nat.two_pow_pos 31
theorem inR_lt {g : GenD} {s l : List Int} {x : Nat} (p : Nat) : (inR g s l x).getD p 0 < 2 ^ 31 := by
  unfold inR; split
  · exact fromL_lt p
  · rw [List.getD_eq_getElem?_getD, List.getElem?_replicate]; split <;> exact Nat.two_pow_pos 31
theorem rep_get {α : Type} {n i : Nat} {z : α} (h : i < n) : (List.replicate n z)[i]? = some z := by simp [h]
theorem snap_is {h : Heap} {id len z : Nat} {rows rows' : List (List AV)} (ho : h id = some (.arr z rows)) (hr : rows = rows') (hl : rows'.length = len) : (AV.ref id 0 len).snap h = .val rows' := by
  subst hr; exact snap_all ho hl
theorem one_rows {N i p X : Nat} {v : Int} (hi : i = p) (hv : v = ((X : Nat) : Int)) : (List.replicate ((N : Nat) : Int).toNat [AV.int .i64 0]).set i [.int .i64 v] = ints (natsI (oneS N p X)) := by
  subst hi; subst hv; simp [ints, natsI, oneS, List.map_set]
theorem quo_nat {x : Nat} {b : Int} (hb : 0 ≤ b) (hx : x ≤ 100000000) : IntKind.i64.wrap (Int.tdiv ((x : Nat) : Int) b) = ((x / b.toNat : Nat) : Int) := by
  obtain ⟨n, rfl⟩ := Int.eq_ofNat_of_zero_le hb
  have h1 : Int.tdiv ((x : Nat) : Int) ((n : Nat) : Int) = ((x / n : Nat) : Int) := rfl
  have h2 := Nat.div_le_self x n
  have h3 : (0 : Int) ≤ ((x / n : Nat) : Int) := Int.natCast_nonneg _
  rw [h1, Int.toNat_natCast, IntWalk.i64_in _ (by omega)]
theorem rem_nat {x : Nat} {b : Int} (hb : 0 ≤ b) : Int.tmod ((x : Nat) : Int) b = ((x % b.toNat : Nat) : Int) := by
  obtain ⟨n, rfl⟩ := Int.eq_ofNat_of_zero_le hb
  rfl
theorem in_last {l : List (List AV)} {x : Nat} {r : List AV} (h : l.length = x) : (List.take x l ++ [r])[x]? = some r := by
  subst h; simp
theorem oneS_lt {N p X : Nat} (h : X < 2 ^ 31) (q : Nat) : (oneS N p X).getD q 0 < 2 ^ 31 := by
  rw [oneS_at]; split
  · exact h
  · exact Nat.two_pow_pos 31
theorem in_done {g : GenD} {s l : List Int} {x : Nat} {c : AV} {rs : List (List AV)} (h : rs = ints (natsI (inR g s l x))) : ((List.take x (inOwns g s l x) ++ [[c]]).set x ([c].set 0 (.own 1 rs))) = inOwns g s l (x + 1) := by
  subst h
  rw [inOwns_succ, List.take_of_length_le (by simp)]
  simp [List.set_append]
theorem neg_more {x : Nat} : List.take x (ints (List.replicate x (-1))) ++ [[AV.int .i64 (-1)]] = ints (List.replicate (x + 1) (-1)) := by
  rw [List.take_of_length_le (by simp [ints])]
  simp [ints, List.replicate_succ']
theorem zero_rows {N : Nat} : List.replicate ((N : Nat) : Int).toNat [AV.int .i64 0] = ints (natsI (List.replicate N 0)) := by simp [ints, natsI]
theorem RFromS_eq {xs : List AV} {g : GenD} {s l : List Int} {S : List Nat} (hx : xs = [.val (ints (natsI (succL g false g.edges.length))), wordV s l, .val (ints (natsI S))]) (hg : GenOk g) (hw : LetOk s l) (h1 : s.length ≤ 100) (h2 : l.length ≤ 100) (h3 : 0 < l.length) (h4 : S.length = s.length + l.length) (h5 : ∀ p, S.getD p 0 < 2 ^ 31) :
  RFromS xs (.ref 0 0 (s.length + l.length)) [.arr 1 (ints (natsI (fromL g s l S)))] := ⟨g, s, l, S, hx, hg, hw, h1, h2, h3, h4, h5, rfl, rfl⟩
theorem pa_lt {g : GenD} (hg : GenOk g) {s l : List Int} (hl0 : 0 < l.length) {x y : Nat} (h : PA g s l x y) : y < (s.length + l.length) * g.states.toNat := by
  obtain ⟨h1, e, he, _, _, rfl⟩ := h
  have hi := gmem hg he
  unfold GIn at hi
  exact pt_lt (nextN_lt h1 hl0) (by omega)
theorem beg_iff {g : GenD} (hg : GenOk g) {s l : List Int} (hl0 : 0 < l.length) {x : Nat} : Beg g s l x ↔ Rch (PA g s l) (fun x => x < (s.length + l.length) * g.states.toNat ∧ AtS g (oneS (s.length + l.length) 0 g.start.toNat) x) x := by
  have hb : ∀ p v, ((oneS (s.length + l.length) 0 g.start.toNat).getD p 0).testBit v = true → v < g.states.toNat := fun p v h => by
    have hh := hg.1.2.2
    rw [oneS_at] at h
    split at h
    · have : g.start.toNat < 2 ^ g.states.toNat := by
        rw [show g.start = ((g.start.toNat : Nat) : Int) by omega] at hh
        exact Int.ofNat_lt.1 (by rw [Int.natCast_pow]; exact hh.2.2)
      exact bit_lt this h
    · simp at h
  have key := fun p v => ptR_iff hg (s := s) (l := l) (S := oneS (s.length + l.length) 0 g.start.toNat) (by simp) hl0 hb (p := p) (v := v)
  constructor
  · intro h
    unfold Beg AtS begL at h
    by_cases hd : x / g.states.toNat < s.length + l.length
    · rw [bit_fromL hd, key, pt_eq] at h
      exact h.2.2.2
    · rw [List.getD_eq_getElem?_getD, List.getElem?_eq_none (by simp; omega)] at h
      simp at h
  · intro h
    have hx : x < (s.length + l.length) * g.states.toNat := by
      cases h with
      | base h => exact h.1
      | step _ ha => exact pa_lt hg hl0 ha
    have hn : 0 < g.states.toNat := by
      rcases Nat.eq_zero_or_pos g.states.toNat with h | h
      · rw [h, Nat.mul_zero] at hx; omega
      · exact h
    have hd : x / g.states.toNat < s.length + l.length := Nat.div_lt_of_lt_mul (by rw [Nat.mul_comm]; exact hx)
    have hm := Nat.mod_lt x hn
    have hs := hg.1.2.1
    unfold Beg AtS begL
    rw [bit_fromL hd, key, pt_eq]
    exact ⟨by omega, hm, hd, h⟩
theorem beg_mut {g : GenD} (hg : GenOk g) {s l : List Int} (hl0 : 0 < l.length) (p q : Nat) (h : Beg g s l p) (hm : Rel1 (PA g s l) p q) : Beg g s l q := by
  rw [beg_iff hg hl0] at h ⊢
  exact hm.mono fun x hx => hx ▸ h
def RComps (xs : List AV) (r : AV) (objs : List AObj) : Prop := ∃ (g : GenD) (s l : List Int), xs = [.agg (genRow g), wordV s l] ∧ GenOk g ∧ 0 < g.states ∧ LetOk s l ∧ s.length ≤ 100 ∧ l.length ≤ 100 ∧ 0 < l.length ∧
  r = .ref 0 0 ((s.length + l.length) * g.states.toNat) ∧ objs = [.arr 1 (ints (compsL (PA g s l) (Beg g s l) ((s.length + l.length) * g.states.toNat)))]
set_option maxHeartbeats 8000000 in
theorem s_spec_l6Comps : PureSound Try.prog 99 RComps := by
  have hR : Rely Try.prog (ctxOf [(170, .pure RSucc), (91, .pure RPlacesS), (171, .pure RFromS), (73, .pure RHas), (123, .pure RBit)]) :=
    rely_cons b_spec_l6Succ.has s_spec_l6Succ (rely_cons b_spec_l6Places.has s_spec_l6Places (rely_cons b_spec_l6From.has s_spec_l6From (rely_cons b_spec_l1Has.has s_spec_l1Has (rely_cons b_spec_l1Bit.has s_spec_l1Bit (rely_nil mixed)))))
  refine pure_of_aw b_spec_l6Comps ?_
  rintro xs r objs ⟨g, s, l, rfl, hg, hs0, hw, hs, hl, hl0, rfl, rfl⟩ -
  have hst := hg.1.2.1
  have hstart := hg.1.2.2
  have hsl := (length_ints (natsI (succL g false g.edges.length))).trans ((length_natsI _).trans (length_succL g false _))
  have hon : (ints (List.set (natsI (List.replicate (s.length + l.length) 0)) 0 g.start)).length = s.length + l.length := by simp [ints]
  have hone : (ints (natsI (oneS (s.length + l.length) 0 g.start.toNat))).length = s.length + l.length := by simp [ints]
  refine ⟨by simp, vc2_sound hR _ _ _ _ _ ?_⟩
  have hN : ((s.length + l.length : Nat) : Int) * g.states = (((s.length + l.length) * g.states.toNat : Nat) : Int) := by
    rw [Int.natCast_mul, Int.toNat_of_nonneg hst.1]
  have hNN : (s.length + l.length) * g.states.toNat ≤ 200 * 31 := Nat.mul_le_mul (by omega) (by omega)
  have hlt30 := oneS_lt (N := s.length + l.length) (p := 0) (X := g.start.toNat) (by omega)
  have hdiv : ∀ x, x < (s.length + l.length) * g.states.toNat → x / g.states.toNat < s.length + l.length := fun x hx => Nat.div_lt_of_lt_mul (by rw [Nat.mul_comm]; exact hx)
  have hmod : ∀ x, x % g.states.toNat < g.states.toNat := fun x => Nat.mod_lt x (by omega)
  have hone2 := fun x y => from_one (s := s) (x := x) (y := y) hg hl0
  generalize hM : (s.length + l.length) * g.states.toNat = M at *
  conv => whnf
  repeat' ((first | contradiction | (refine And.intro (fun hb => ?_) (fun hb => ?_) <;> first | contradiction | ((try simp only [SB, reduceCtorEq] at hb); try (exfalso; first | contradiction | omega))) | refine G2 ?_ | rw [ints_at (by omega)] | rw [ints_at0 (by omega)] | rw [ints_at' (by omega) (by omega)] | refine G1 ?_ | refine ⟨_, _, RSucc_eq rfl hg, ?_⟩ | refine ⟨_, _, RPlacesS_eq rfl (by omega) (by omega), ?_⟩ | rw [rep_get (by omega)] | refine ⟨_, _, RFromS_eq (S := oneS (s.length + l.length) 0 g.start.toNat) (args_cons (snap_all rfl hsl) (args_cons rfl (args_cons (snap_is rfl (one_rows rfl (by omega)) hone) rfl))) hg hw hs hl hl0 (by simp) hlt30, ?_⟩ | fail) <;> conv => whnf)
  have hBl : (ints (natsI (begL g s l))).length = s.length + l.length := by simp [ints, begL]
  have hBb : (ints (natsI (begL g s l))) = ints (natsI (fromL g s l (oneS (s.length + l.length) 0 g.start.toNat))) := rfl
  rw [← hBb]
  have hBat : ∀ x, x < M → (ints (natsI (begL g s l)))[((x / g.states.toNat : Nat) : Int).toNat]? = some [.int .i64 (((begL g s l).getD (x / g.states.toNat) 0 : Nat) : Int)] := fun x hx => natsI_at (by simpa [begL] using hdiv x hx)
  have hB31 : ∀ p, (begL g s l).getD p 0 < 2 ^ 31 := fun p => fromL_lt p
  refine Lp.introT (α := Nat) (fun x => x ≤ M) (fun x => M - x)
    (fun x => [(2, .rptr (genRow g) 0), (3, wordP s l), (5, .val (ints (natsI (succL g false g.edges.length)))), (6, .int .i64 ((s.length + l.length : Nat) : Int)), (8, .val (ints (natsI (begL g s l)))), (9, .ref 0 0 x), (10, .ref 1 0 x), (11, .int .i64 x)])
    (fun x => [some (.arr 1 (ints (List.replicate x (-1)))), some (.nst 1 (inOwns g s l x))]) ?_ ?_
  · refine ⟨0, Nat.zero_le _, [none, none], rfl, rfl, And.intro rfl (And.intro rfl trivial), ?_⟩
    exact ⟨.inr rfl, .inr rfl, .inr (snap_all rfl hsl), .inl rfl, .inr (snap_all rfl hBl), ⟨rfl, rfl, rfl⟩, ⟨rfl, rfl, rfl⟩, .inl rfl, trivial⟩
  · intro x hx
    have hrl : (ints (List.replicate x (-1))).length = x := by simp [ints]
    have hil := length_inOwns g s l x
    by_cases hlt : x < M
    · refine Aw.turn (.lax 1 1 _ (.inr rfl) (.refl _ _)) (vc2_sound hR _ _ _ _ _ ?_)
      have hq := quo_nat (x := x) hst.1 (by omega)
      have hr := rem_nat (x := x) hst.1
      have hxm := hmod x
      have hxd := hdiv x hlt
      have hat := hBat x hlt
      obtain ⟨p, hp⟩ : ∃ p, x / g.states.toNat = p := ⟨_, rfl⟩
      obtain ⟨v, hv⟩ : ∃ v, x % g.states.toNat = v := ⟨_, rfl⟩
      have hbg : Beg g s l x ↔ ((begL g s l).getD p 0).testBit v = true := by unfold Beg AtS; rw [hp, hv]
      have hi1 : Beg g s l x → inR g s l x = fromL g s l (oneS (s.length + l.length) p (2 ^ v)) := fun h => by unfold inR; rw [if_pos h, hp, hv]
      have hi2 : ¬ Beg g s l x → inR g s l x = List.replicate (s.length + l.length) 0 := fun h => by unfold inR; rw [if_neg h]
      rw [hp] at hq hxd hat
      rw [hv] at hr hxm
      have hone1 := oneS_lt (N := s.length + l.length) (p := p) (X := 2 ^ v) (Nat.pow_lt_pow_right (by decide) (by omega))
      have hone' : (ints (natsI (oneS (s.length + l.length) p (2 ^ v)))).length = s.length + l.length := by simp [ints]
      conv => whnf
      repeat' ((first | contradiction | (refine And.intro (fun hb => ?_) (fun hb => ?_) <;> first | contradiction | ((try simp only [SB, reduceCtorEq] at hb); try (exfalso; first | contradiction | omega))) | refine G2 ?_ | rw [ints_at (by omega)] | rw [ints_at0 (by omega)] | rw [ints_at' (by omega) (by omega)] | refine G1 ?_ | rw [hN] | refine ⟨_, hq, ?_⟩ | rw [hr] | rw [hat] | refine ⟨_, _, RHas_mk (hB31 _) (by omega) (by omega), ?_⟩ | refine ⟨_, _, RBit_mk (by omega) (by omega), ?_⟩ | rw [rep_get (by omega)] | refine ⟨_, _, RFromS_eq (S := oneS (s.length + l.length) p (2 ^ v)) (args_cons rfl (args_cons rfl (args_cons (snap_is rfl (one_rows (by omega) (by simp)) hone') rfl))) hg hw hs hl hl0 (by simp) hone1, ?_⟩ | fail) <;> conv => whnf)
      · have hin := hi1 (hbg.2 (by assumption))
        refine ⟨_, _, .fold 5 4 x 0 1 1 (List.take x (inOwns g s l x) ++ [[.ref 4 0 (s.length + l.length)]]) [.ref 4 0 (s.length + l.length)] (ints (natsI (fromL g s l (oneS (s.length + l.length) p (2 ^ v))))) rfl rfl (by decide) (in_last hil) _ (by simp [ints]) rfl
          (.clos 5 1 (inOwns g s l (x + 1)) (congrArg (fun r => some (AObj.arx 1 r)) (in_done (by rw [hin]))) (inOwns_sealed _ _ _ _) (.refl _ _)), x + 1, hlt, by omega, [some 2, some 5], rfl, rfl, And.intro (And.intro rfl neg_more) (And.intro (And.intro rfl rfl) trivial), ?_⟩
        exact ⟨.inl rfl, .inl rfl, .inl rfl, .inl rfl, .inl rfl, rfl, rfl, .inl rfl, trivial⟩
      · have hin := hi2 (fun h => absurd (hbg.1 h) (by simp_all))
        refine ⟨_, _, .fold 4 3 x 0 1 1 (List.take x (inOwns g s l x) ++ [[.ref 3 0 (s.length + l.length)]]) [.ref 3 0 (s.length + l.length)] (List.replicate ((s.length + l.length : Nat) : Int).toNat [AV.int .i64 0]) rfl rfl (by decide) (in_last hil) _ (by rw [List.length_replicate]; rfl) rfl
          (.clos 4 1 (inOwns g s l (x + 1)) (congrArg (fun r => some (AObj.arx 1 r)) (in_done (by rw [hin, zero_rows]))) (inOwns_sealed _ _ _ _) (.refl _ _)), x + 1, hlt, by omega, [some 2, some 4], rfl, rfl, And.intro (And.intro rfl neg_more) (And.intro (And.intro rfl rfl) trivial), ?_⟩
        exact ⟨.inl rfl, .inl rfl, .inl rfl, .inl rfl, .inl rfl, rfl, rfl, .inl rfl, trivial⟩
    · obtain rfl : M = x := by omega
      refine vc2_sound hR _ _ _ _ _ ?_
      conv => whnf
      repeat' ((first | contradiction | (refine And.intro (fun hb => ?_) (fun hb => ?_) <;> first | contradiction | ((try simp only [SB, reduceCtorEq] at hb); try (exfalso; first | contradiction | omega))) | refine G2 ?_ | rw [ints_at (by omega)] | rw [ints_at0 (by omega)] | rw [ints_at' (by omega) (by omega)] | refine G1 ?_ | rw [hN] | fail) <;> conv => whnf)
      have hBm := fun p q (h : Beg g s l p) (hm : Mut (PA g s l) p q) => beg_mut hg hl0 p q h hm.1
      have hbeg : ∀ x, x < M → (Beg g s l x ↔ ((begL g s l).getD (x / g.states.toNat) 0).testBit (x % g.states.toNat) = true) := fun x _ => Iff.rfl
      have hin : ∀ x y, x < M → y < M → Beg g s l x → (((inR g s l x).getD (y / g.states.toNat) 0).testBit (y % g.states.toNat) = true ↔ Rel1 (PA g s l) x y) := fun x y hx hy h => by
        unfold inR
        rw [if_pos h]
        exact hone2 x y hx hy
      refine Lp.intro (α := Nat × List Int) (fun c => CpI (PA g s l) (Beg g s l) M c.1 0 c.2 ∧ c.1 ≤ M) (fun c => M - c.1)
        (fun c => [(2, .rptr (genRow g) 0), (8, .val (ints (natsI (begL g s l)))), (9, .ref 0 0 M), (10, .val (inRows g s l M)), (13, .int .i64 c.1)]) (fun c => [some (.arr 1 (ints c.2))]) ?_ ?_
      · refine ⟨(0, List.replicate M (-1)), ⟨cp_start _ _ _, Nat.zero_le _⟩, [some 0], rfl, rfl, And.intro (And.intro rfl rfl) trivial, ?_⟩
        exact ⟨.inl rfl, .inl rfl, rfl, .inr (snap_in rfl), .inl rfl, trivial⟩
      rintro ⟨x, C⟩ ⟨hI, hx⟩
      dsimp only at hI hx ⊢
      have hCl := hI.len
      have hCi := (length_ints C).trans hCl
      refine vc2_sound hR _ _ _ _ _ ?_
      by_cases hlt : x < M
      · have hq := quo_nat (x := x) hst.1 (by omega)
        have hr := rem_nat (x := x) hst.1
        have hxm := hmod x
        have hat := hBat x hlt
        have hbx := hbeg x hlt
        have hinx := fun y hy h => hin x y hlt hy h
        have hiny := fun y hy h => hin y x hy hlt h
        have hxd := hdiv x hlt
        have hrx := inRows_at (g := g) (s := s) (l := l) hlt
        generalize x / g.states.toNat = p at *
        generalize x % g.states.toNat = v at *
        conv => whnf
        repeat' ((first | contradiction | (refine And.intro (fun hb => ?_) (fun hb => ?_) <;> first | contradiction | ((try simp only [SB, reduceCtorEq] at hb); try (exfalso; first | contradiction | omega))) | refine G2 ?_ | rw [ints_at (by omega)] | rw [ints_at0 (by omega)] | rw [ints_at' (by omega) (by omega)] | refine G1 ?_ | refine ⟨_, hq, ?_⟩ | rw [hr] | rw [hat] | refine ⟨_, _, RHas_mk (hB31 _) (by omega) (by omega), ?_⟩ | fail) <;> conv => whnf)
        · refine ⟨(x + 1, C), ⟨hI.skip hlt (.inl (by assumption)), hlt⟩, by dsimp only; omega, [some 0], rfl, rfl, And.intro (And.intro rfl rfl) trivial, ?_⟩
          exact ⟨.inl rfl, .inl rfl, rfl, .inl rfl, .inl rfl, trivial⟩
        · have hb2 : Beg g s l x := hbx.2 (by assumption)
          have hfr := (hI.at0 hlt).fresh (by omega)
          refine Lp.intro (α := Nat × List Int) (fun c => CpI (PA g s l) (Beg g s l) M x c.1 c.2 ∧ c.1 ≤ M) (fun c => M - c.1)
            (fun c => [(2, .rptr (genRow g) 0), (8, .val (ints (natsI (begL g s l)))), (9, .ref 0 0 M), (10, .val (inRows g s l M)), (13, .int .i64 x), (14, .int .i64 c.1)]) (fun c => [some (.arr 1 (ints c.2))]) ?_ ?_
          · refine ⟨(x, C), ⟨hI.enter hBm, hx⟩, [some 0], rfl, rfl, And.intro (And.intro rfl rfl) trivial, ?_⟩
            exact ⟨.inl rfl, .inl rfl, rfl, .inl rfl, .inl rfl, .inl rfl, trivial⟩
          rintro ⟨y, D⟩ ⟨hJ, hy⟩
          dsimp only at hJ hy ⊢
          have hDl := hJ.len
          have hDi := (length_ints D).trans hDl
          refine vc2_sound hR _ _ _ _ _ ?_
          by_cases hyl : y < M
          · have hqy := quo_nat (x := y) hst.1 (by omega)
            have hry := rem_nat (x := y) hst.1
            have hym := hmod y
            have hyd := hdiv y hyl
            have hixy := hinx y hyl hb2
            have hiyx := hiny y hyl
            have hrr := inRows_at (g := g) (s := s) (l := l) hyl
            generalize y / g.states.toNat = py at *
            generalize y % g.states.toNat = vy at *
            have hax := natsI_at (l := inR g s l x) (i := py) (by simpa using hyd)
            have hay := natsI_at (l := inR g s l y) (i := p) (by simpa using hxd)
            conv => whnf
            repeat' ((first | contradiction | (refine And.intro (fun hb => ?_) (fun hb => ?_) <;> first | contradiction | ((try simp only [SB, reduceCtorEq] at hb); try (exfalso; first | contradiction | omega))) | refine G2 ?_ | rw [ints_at (by omega)] | rw [ints_at0 (by omega)] | rw [ints_at' (by omega) (by omega)] | refine G1 ?_ | refine ⟨_, hq, ?_⟩ | refine ⟨_, hqy, ?_⟩ | rw [hr] | rw [hry] | rw [hrx] | rw [hrr] | rw [hax] | rw [hay] | refine ⟨_, _, RHas_mk (inR_lt _) (by omega) (by omega), ?_⟩ | fail) <;> conv => whnf)
            · have h1 := hixy.1 (by assumption)
              have h2 := (hiyx (beg_mut hg hl0 x y hb2 h1)).1 (by assumption)
              refine ⟨(y + 1, D.set y (x : Int)), ⟨hJ.yes hyl hfr hb2 ⟨h1, h2⟩, hyl⟩, by dsimp only; omega, [some 0], rfl, rfl, And.intro (And.intro rfl (ints_set)) trivial, ?_⟩
              exact ⟨.inl rfl, .inl rfl, rfl, .inl rfl, .inl rfl, .inl rfl, trivial⟩
            · have h1 := hixy.1 (by assumption)
              have h2 : ¬ Rel1 (PA g s l) y x := fun h => by
                have := (hiyx (beg_mut hg hl0 x y hb2 h1)).2 h
                simp_all
              refine ⟨(y + 1, D), ⟨hJ.no hyl (fun h => h2 h.2), hyl⟩, by dsimp only; omega, [some 0], rfl, rfl, And.intro (And.intro rfl rfl) trivial, ?_⟩
              exact ⟨.inl rfl, .inl rfl, rfl, .inl rfl, .inl rfl, .inl rfl, trivial⟩
            · have h1 : ¬ Rel1 (PA g s l) x y := fun h => by
                have := hixy.2 h
                simp_all
              refine ⟨(y + 1, D), ⟨hJ.no hyl (fun h => h1 h.1), hyl⟩, by dsimp only; omega, [some 0], rfl, rfl, And.intro (And.intro rfl rfl) trivial, ?_⟩
              exact ⟨.inl rfl, .inl rfl, rfl, .inl rfl, .inl rfl, .inl rfl, trivial⟩
          · conv => whnf
            repeat' ((first | contradiction | (refine And.intro (fun hb => ?_) (fun hb => ?_) <;> first | contradiction | ((try simp only [SB, reduceCtorEq] at hb); try (exfalso; first | contradiction | omega))) | refine G2 ?_ | rw [ints_at (by omega)] | rw [ints_at0 (by omega)] | rw [ints_at' (by omega) (by omega)] | refine G1 ?_ | fail) <;> conv => whnf)
            refine ⟨(x + 1, D), ⟨hJ.next (by omega), hlt⟩, by dsimp only; omega, [some 0], rfl, rfl, And.intro (And.intro rfl rfl) trivial, ?_⟩
            exact ⟨.inl rfl, .inl rfl, rfl, .inl rfl, .inl rfl, trivial⟩
        · refine ⟨(x + 1, C), ⟨hI.skip hlt (.inr (fun h => by have := hbx.1 h; simp_all)), hlt⟩, by dsimp only; omega, [some 0], rfl, rfl, And.intro (And.intro rfl rfl) trivial, ?_⟩
          exact ⟨.inl rfl, .inl rfl, rfl, .inl rfl, .inl rfl, trivial⟩
      · have hfin := (hI.fin (by omega) hBm).uniq (isComps_L _ _ _)
        conv => whnf
        repeat' ((first | contradiction | (refine And.intro (fun hb => ?_) (fun hb => ?_) <;> first | contradiction | ((try simp only [SB, reduceCtorEq] at hb); try (exfalso; first | contradiction | omega))) | refine G2 ?_ | rw [ints_at (by omega)] | rw [ints_at0 (by omega)] | rw [ints_at' (by omega) (by omega)] | refine G1 ?_ | fail) <;> conv => whnf)
        refine ⟨.inl rfl, ?_⟩
        conv => whnf
        rw [← hfin]
        exact ⟨[some 0], ⟨rfl, And.intro (And.intro rfl rfl) trivial⟩, rfl, rfl, by simp [AObj.nov, ints_nov]⟩
end Go.Proofs.Ythanhknkoikbfaa.Ct
namespace Go.Proofs.Ythanhknkoikbfaa.Ct
open Go Go.Proofs Go.Proofs.Ythanhknkoikbfaa.Av
def markE (k : Int) (i : Nat) : EdgeD := ⟨k + 4 * i, k + 4 * i + 1, k + 4 * i + 2, (k + 4 * i + 3).tmod 3 == 0⟩
def marksE (k : Int) (n : Nat) : List EdgeD := (List.range n).map (markE k)
@[simp] theorem length_marksE (k : Int) (n : Nat) : (marksE k n).length = n := by simp [marksE]
def autoRef (o : Nat) (a : AutoD) : List AV := [.int .i64 a.letters, .int .i64 a.states, .int .i64 a.start, .ref o 0 a.edges.length]
theorem snap_auto {h : Heap} {id : Nat} {a : AutoD} (ho : h id = some (.arr 4 (edgeRows a.edges))) : (AV.agg (autoRef id a)).snap h = .agg (autoRow a) :=
  snap_agg (cells_cons rfl (cells_cons rfl (cells_cons rfl (cells_cons (snap1_all ho (length_edgeRows _)) rfl))))
def c_spec_l1Max : ICode := (.seq (.reg [Ol 4 .mv [ci 0]]) (.seq (.seq (.reg [O1 5 .mv 0, O1 6 .mv 1, O2 7 (.bin .gtr) 5 6]) (.cond (.t 7) (.seq (.reg [O1 8 .mv 0, O1 4 .mv 8]) .ret) .skip)) (.seq (.reg [O1 9 .mv 1, O1 4 .mv 9]) .ret)))
theorem b_spec_l1Max : Body Try.prog 153 10 c_spec_l1Max [(.t 4)] := body_mk Try.func153 (by kernel_rfl) (by decide)
def c_spec_AutoMake : ICode := (.seq (.reg [O0 8 (.alc [(.int .i64 0), (.int .i64 0), (.int .i64 0), .snil]), Ol 9 .mv [cb false]]) (.seq (.reg [O1 17 .mv 0, O1 18 .mv 1, O1 19 .mv 2, O3 20 (.bld [(.int .i64 0), (.int .i64 0), (.int .i64 0), .snil] [(0, 1), (1, 1), (2, 1)]) 17 18 19, O0 10 (.alc [(.int .i64 0), (.int .i64 0), (.int .i64 0), .snil]), S2 (.st 4) 10 20]) (.seq (.seq (.reg [O1 21 (.ldn 4) 10, O1 22 (.call 38) 21, O1 23 .not 22, O1 24 .mv 23, Og 25 .mv [.t 3] 24 false, Og 26 .len [.t 25] 24 false, Og 27 (.bin .gtr) [.t 26, ci 2000] 24 false, Ol 28 .pick [.t 24, cb true, .t 27]]) (.cond (.t 28) (.seq (.reg [O0 29 (.bld [(.int .i64 0), (.int .i64 0), (.int .i64 0), .snil] []), S2 (.st 4) 8 29, Ol 9 .mv [cb false]]) .ret) .skip)) (.seq (.reg [O1 30 .mv 1, O1 31 .mv 0, O2 32 (.bin .mul) 30 31, O1 33 .mv 1, O2 34 (.bin .mul) 32 33, O2 35 (.mks 1 8 [(.int .i64 0)]) 34 34, O1 11 .mv 35]) (.seq (.seq (.reg [Ol 12 .mv [ci 0]]) (.block 0 (.loop (.seq (.seq (.reg [O1 36 .mv 12, O1 37 .mv 3, O1 38 .len 37, O2 39 (.bin .lss) 36 38]) (.cond (.t 39) .skip (.exit 0))) (.seq (.block 1 (.seq (.reg [O1 42 .mv 3, O1 43 .mv 12, O2 44 (.iadr 4) 42 43, O1 45 (.ldn 4) 44, O0 13 (.alc [(.int .i64 0), (.int .i64 0), (.int .i64 0), (.bool false)]), S2 (.st 4) 13 45]) (.seq (.seq (.reg [O1 46 (.fadr 0) 13, O1 47 .ld1 46, O1 48 .mv 1, O2 49 (.call 116) 47 48, O1 50 .not 49, O1 51 .mv 50, Og 52 (.fadr 2) [.t 13] 51 false, Og 53 .ld1 [.t 52] 51 false, Og 54 .mv [.t 1] 51 false, Og 55 (.call 116) [.t 53, .t 54] 51 false, Og 56 .not [.t 55] 51 false, Ol 57 .pick [.t 51, cb true, .t 56], O1 58 .mv 57, Og 59 (.fadr 1) [.t 13] 58 false, Og 60 .ld1 [.t 59] 58 false, Og 61 .mv [.t 0] 58 false, Og 62 (.bin .sub) [.t 61, ci 1] 58 false, Og 63 (.call 114) [.t 60, ci 0, .t 62] 58 false, Og 64 .not [.t 63] 58 false, Ol 65 .pick [.t 58, cb true, .t 64]]) (.cond (.t 65) (.seq (.reg [O0 66 (.bld [(.int .i64 0), (.int .i64 0), (.int .i64 0), .snil] []), S2 (.st 4) 8 66, Ol 9 .mv [cb false]]) .ret) .skip)) (.seq (.reg [O1 67 (.fadr 0) 13, O1 68 .ld1 67, O1 69 .mv 0, O2 70 (.bin .mul) 68 69, O1 71 (.fadr 1) 13, O1 72 .ld1 71, O2 73 (.bin .add) 70 72, O1 74 .mv 1, O2 75 (.bin .mul) 73 74, O1 76 (.fadr 2) 13, O1 77 .ld1 76, O2 78 (.bin .add) 75 77, O1 14 .mv 78]) (.seq (.reg [Ol 15 .mv [ci 1]]) (.seq (.seq (.reg [O1 79 (.fadr 3) 13, O1 80 .ld1 79]) (.cond (.t 80) (.reg [Ol 15 .mv [ci 2]]) .skip)) (.reg [O1 81 .mv 11, O1 82 .mv 14, O1 83 .mv 11, O1 84 .mv 14, O2 85 (.iadr 1) 83 84, O1 86 .ld1 85, O1 87 .mv 15, O2 88 (.call 153) 86 87, O2 89 (.iadr 1) 81 82, S2 (.st 1) 89 88]))))))) (.reg [O1 40 .mv 12, Ol 41 (.bin .add) [.t 40, ci 1], O1 12 .mv 41])))))) (.seq (.seq (.reg [Ol 16 .mv [ci 0]]) (.block 2 (.loop (.seq (.seq (.reg [O1 90 .mv 16, O1 91 .mv 11, O1 92 .len 91, O2 93 (.bin .lss) 90 92]) (.cond (.t 93) .skip (.exit 2))) (.seq (.block 3 (.seq (.reg [O1 96 .mv 11, O1 97 .mv 16, O2 98 (.iadr 1) 96 97, O1 99 .ld1 98, Ol 100 (.bin .gtr) [.t 99, ci 0]]) (.cond (.t 100) (.drw [O1 101 (.fadr 3) 10, O1 102 .ld1 101, O1 103 .mv 16, O1 104 .mv 1, O2 105 (.bin .quo) 103 104, O1 106 .mv 0, O2 107 (.bin .quo) 105 106, O1 108 .mv 16, O1 109 .mv 1, O2 110 (.bin .quo) 108 109, O1 111 .mv 0, O2 112 (.bin .rem) 110 111, O1 113 .mv 16, O1 114 .mv 1, O2 115 (.bin .rem) 113 114, O1 116 .mv 11, O1 117 .mv 16, O2 118 (.iadr 1) 116 117, O1 119 .ld1 118, Ol 120 (.bin .eql) [.t 119, ci 2], Ol 121 (.bld [(.int .i64 0), (.int .i64 0), (.int .i64 0), (.bool false)] [(0, 1), (1, 1), (2, 1), (3, 1)]) [.t 107, .t 112, .t 115, .t 120], O1 122 (.bslv 4) 121, O2 123 (.app 4 32) 102 122, O1 124 (.fadr 3) 10, S2 (.st 1) 124 123] (unB [0, 1, 0, 0, 12, 0, 60, 0, 0, 384, 0, 1920, 0, 0, 12288, 0, 0, 98304, 229376, 491520, 1048572, 2097148, 4194303, 8388607, 16777215] 0) true true) .skip))) (.reg [O1 94 .mv 16, Ol 95 (.bin .add) [.t 94, ci 1], O1 16 .mv 95])))))) (.seq (.reg [O1 125 (.ldn 4) 10, S2 (.st 4) 8 125, Ol 9 .mv [cb true]]) .ret)))))))
theorem b_spec_AutoMake : Body Try.prog 154 126 c_spec_AutoMake [(.cn 8 4), (.t 9)] := body_mk Try.func154 (by kernel_rfl) (by decide)
def RMax (xs : List AV) (r : AV) (objs : List AObj) : Prop := ∃ a b, xs = [.int .i64 a, .int .i64 b] ∧ r = .int .i64 (if a > b then a else b) ∧ objs = []
theorem RMax_mk {a b : Int} : RMax [.int .i64 a, .int .i64 b] (.int .i64 (if a > b then a else b)) [] := ⟨a, b, rfl, rfl, rfl⟩
theorem s_spec_l1Max : PureSound Try.prog 153 RMax := by
  have hR : Rely Try.prog (ctxOf []) := rely_nil mixed
  refine pure_of_aw b_spec_l1Max ?_
  rintro xs r objs ⟨a, b, rfl, rfl, rfl⟩ -
  refine ⟨by simp, vc2_sound hR _ _ _ _ _ ?_⟩
  conv => whnf
  repeat' ((first | contradiction | (refine And.intro (fun hb => ?_) (fun hb => ?_) <;> first | contradiction | ((try simp only [SB, reduceCtorEq] at hb); try (exfalso; first | contradiction | omega))) | refine G2 ?_ | rw [ints_at (by omega)] | rw [ints_at0 (by omega)] | rw [ints_at' (by omega) (by omega)] | refine G1 ?_ | fail) <;> conv => whnf)
  all_goals
    refine ⟨.inl rfl, ?_⟩
    conv => whnf
    refine ⟨[], ⟨rfl, trivial⟩, ?_, rfl, rfl⟩
    conv => whnf
    left
    conv => lhs; whnf
    exact congrArg (AV.int .i64) (by split <;> omega)
def EdgeH (l n : Int) (e : EdgeD) : Prop := (0 ≤ e.src ∧ e.src ≤ n - 1) ∧ (0 ≤ e.dst ∧ e.dst ≤ n - 1) ∧ (0 ≤ e.letter ∧ e.letter ≤ l - 1)
instance (l n : Int) (e : EdgeD) : Decidable (EdgeH l n e) := by unfold EdgeH; infer_instance
def MakeOk (l n st : Int) (es : List EdgeD) : Prop := HeadOk l n st ∧ es.length ≤ 2000 ∧ ∀ i, i < es.length → EdgeH l n (es.getD i default)
def zeroAuto : AutoD := ⟨0, 0, 0, []⟩
open Classical in
noncomputable def makeD (l n st : Int) (es : List EdgeD) : AutoD × Bool := if MakeOk l n st es then (⟨l, n, st, mkAll l.toNat n.toNat es⟩, true) else (zeroAuto, false)
def makeR (d : AutoD × Bool) : AV := .tup [.agg (autoRef 0 d.1), .bool d.2]
def RMake (xs : List AV) (r : AV) (objs : List AObj) : Prop := ∃ l n st es, xs = [.int .i64 l, .int .i64 n, .int .i64 st, .val (edgeRows es)] ∧ es.length ≤ 1048576 ∧ r = makeR (makeD l n st es) ∧ objs = [.arr 4 (edgeRows (makeD l n st es).1.edges)]
def marksL (l n : Nat) (es : List EdgeD) : List Int := (List.range (n * l * n)).map fun j => ((markN l n es j : Nat) : Int)
@[simp] theorem length_marksL (l n : Nat) (es : List EdgeD) : (marksL l n es).length = n * l * n := by simp [marksL]
theorem marksL_at {l n : Nat} {es : List EdgeD} {j : Nat} (h : j < n * l * n) : (marksL l n es).getD j 0 = ((markN l n es j : Nat) : Int) := by simp [marksL, List.getD_eq_getElem?_getD, h]
theorem marksL_nil (l n : Nat) : marksL l n [] = List.replicate (n * l * n) 0 := by
  unfold marksL
  have : (fun j => ((markN l n [] j : Nat) : Int)) = fun _ => 0 := by funext j; simp [markN]
  rw [this, List.map_const', List.length_range]
theorem markN_snoc {l n : Nat} {es : List EdgeD} {e : EdgeD} {j : Nat} : markN l n (es ++ [e]) j = if ixE l n e = j then Nat.max (markN l n es j) (if e.mark = true then 2 else 1) else markN l n es j := by
  unfold markN
  simp only [List.any_append, List.any_cons, List.any_nil, Bool.or_false, Bool.or_eq_true]
  by_cases h : ixE l n e = j
  · simp only [h, beq_self_eq_true, Bool.true_and, if_true]
    cases e.mark <;> simp <;> split <;> simp_all
    all_goals (try split) <;> decide
  · simp [h]
theorem marks_step {l n : Nat} {es : List EdgeD} {e : EdgeD} {x : Int} (hx : x = (((if (markN l n es (ixE l n e) : Int) > (if e.mark = true then 2 else 1) then (markN l n es (ixE l n e) : Int) else (if e.mark = true then 2 else 1) : Int)))) (h : ixE l n e < n * l * n) :
    (marksL l n es).set (ixE l n e) x = marksL l n (es ++ [e]) := by
  refine List.ext_getElem? fun j => ?_
  rw [List.getElem?_set]
  by_cases hj : ixE l n e = j
  · subst hj
    rw [if_pos rfl, length_marksL, if_pos h]
    simp only [marksL, List.getElem?_map, List.getElem?_range h, Option.map_some, markN_snoc, if_true]
    rw [hx]
    congr 1
    show _ = ((max (markN l n es (ixE l n e)) (if e.mark = true then 2 else 1) : Nat) : Int)
    cases e.mark <;> simp <;> omega
  · rw [if_neg hj]
    by_cases hl : j < n * l * n
    · simp only [marksL, List.getElem?_map, List.getElem?_range hl, Option.map_some, markN_snoc, if_neg hj]
    · simp [marksL, hl]
theorem ints_setM {xs : List Int} {j : Nat} {v : Int} : (ints xs).set j [.int .i64 v] = ints (xs.set j v) := by simp [ints, List.map_set]
theorem cell_le {l n : Nat} {es : List EdgeD} {i : Nat} : (cellE l n es i).length ≤ 1 := by unfold cellE; split <;> simp
theorem mkEs_le {l n : Nat} {es : List EdgeD} : ∀ k, (mkEs l n es k).length ≤ k
  | 0 => by simp [mkEs]
  | k + 1 => by
    have := mkEs_le (l := l) (n := n) (es := es) k
    have := cell_le (l := l) (n := n) (es := es) (i := k)
    rw [mkEs_succ, List.length_append]; omega
theorem make_app {M : List EdgeD} {l n k : Nat} {b : Bool} : List.take M.length (edgeRows M) ++ [[.int .i64 ((k / n / l : Nat) : Int), .int .i64 ((k / n % l : Nat) : Int), .int .i64 ((k % n : Nat) : Int), .bool b]] = edgeRows (M ++ [ofIx l n k b]) := by
  rw [List.take_of_length_le (by rw [length_edgeRows]; exact Nat.le_refl _)]
  simp [edgeRows, edgeRow, ofIx]
theorem take_succ_E {es : List EdgeD} {i : Nat} (h : i < es.length) : es.take i ++ [es.getD i default] = es.take (i + 1) := by
  rw [List.take_add_one, List.getElem?_eq_getElem h, List.getD_eq_getElem?_getD, List.getElem?_eq_getElem h]; rfl
theorem ixE_int {l n : Int} {e : EdgeD} (hl : 0 ≤ l) (hn : 0 ≤ n) (h : EdgeH l n e) : (e.src * l + e.letter) * n + e.dst = ((ixE l.toNat n.toNat e : Nat) : Int) := by
  unfold EdgeH at h
  unfold ixE
  rw [Int.natCast_add, Int.natCast_mul, Int.natCast_add, Int.natCast_mul, Int.toNat_of_nonneg hl, Int.toNat_of_nonneg hn, Int.toNat_of_nonneg h.1.1, Int.toNat_of_nonneg h.2.2.1, Int.toNat_of_nonneg h.2.1.1]
theorem head_auto {l n st : Int} : AutoOk ⟨l, n, st, []⟩ ↔ HeadOk l n st := ⟨fun h => h.1, fun h => ⟨h, by simp, fun i hi => by simp at hi⟩⟩
theorem RAutoOk_H {xs : List AV} {l n st : Int} {b : Bool} (hx : xs = [.agg (autoRow ⟨l, n, st, []⟩)]) (h : decide (HeadOk l n st) = b) : RAutoOk xs (.bool b) [] := ⟨_, hx, by subst h; exact congrArg AV.bool (by simp only [head_auto]), rfl⟩
set_option maxHeartbeats 4000000 in
theorem s_spec_AutoMake : PureSound Try.prog 154 RMake := by
  have hR : Rely Try.prog (ctxOf [(38, .pure RAutoOk), (116, .pure RState), (114, .pure RIn), (153, .pure RMax)]) :=
    rely_cons b_spec_AutoOk.has s_spec_AutoOk (rely_cons b_spec_l4State.has s_spec_l4State (rely_cons b_spec_l1In.has s_spec_l1In (rely_cons b_spec_l1Max.has s_spec_l1Max (rely_nil mixed))))
  refine pure_of_aw b_spec_AutoMake ?_
  rintro xs r objs ⟨l, n, st, es, rfl, hel, rfl, rfl⟩ -
  have hle := length_edgeRows es
  refine ⟨by simp, vc2_sound hR _ _ _ _ _ ?_⟩
  by_cases hh : HeadOk l n st
  rotate_left
  · have hh' : decide (HeadOk l n st) = false := decide_eq_false hh
    rw [show makeD l n st es = (zeroAuto, false) from if_neg (fun h => hh h.1)]
    conv => whnf
    repeat' ((first | contradiction | (refine And.intro (fun hb => ?_) (fun hb => ?_) <;> first | contradiction | ((try simp only [SB, reduceCtorEq] at hb); try (exfalso; first | contradiction | omega))) | refine G2 ?_ | rw [ints_at (by omega)] | rw [ints_at0 (by omega)] | rw [ints_at' (by omega) (by omega)] | refine G1 ?_ | refine ⟨_, _, RAutoOk_H rfl hh', ?_⟩ | fail) <;> conv => whnf)
    refine ⟨.inl rfl, ?_⟩
    conv => whnf
    exact ⟨Nat.le_refl 4, [none], ⟨rfl, And.intro rfl trivial⟩, ⟨⟨.inl rfl, .inl rfl, .inl rfl, ⟨rfl, rfl, rfl⟩, trivial⟩, .inl rfl, trivial⟩, rfl, rfl⟩
  have hh' : decide (HeadOk l n st) = true := decide_eq_true hh
  have hH := hh
  obtain ⟨hl, hn, hs⟩ := hh
  have p1 : 0 ≤ n * l ∧ n * l ≤ 31 * 8 := ⟨Int.mul_nonneg (by omega) (by omega), Int.mul_le_mul (by omega) (by omega) (by omega) (by omega)⟩
  have p2 : 0 ≤ n * l * n ∧ n * l * n ≤ 31 * 8 * 31 := ⟨Int.mul_nonneg (by omega) (by omega), Int.mul_le_mul (by omega) (by omega) (by omega) (by omega)⟩
  have p3 : n * l * n = ((n.toNat * l.toNat * n.toNat : Nat) : Int) := by rw [Int.natCast_mul, Int.natCast_mul, Int.toNat_of_nonneg (by omega), Int.toNat_of_nonneg (by omega)]
  conv => whnf
  repeat' ((first | contradiction | (refine And.intro (fun hb => ?_) (fun hb => ?_) <;> first | contradiction | ((try simp only [SB, reduceCtorEq] at hb); try (exfalso; first | contradiction | omega))) | refine G2 ?_ | rw [ints_at (by omega)] | rw [ints_at0 (by omega)] | rw [ints_at' (by omega) (by omega)] | refine G1 ?_ | refine ⟨_, _, RAutoOk_H rfl hh', ?_⟩ | fail) <;> conv => whnf)
  · rw [show makeD l n st es = (zeroAuto, false) from if_neg (fun h => by have := h.2.1; omega)]
    refine ⟨.inl rfl, ?_⟩
    conv => whnf
    exact ⟨Nat.le_refl 4, [none], ⟨rfl, And.intro rfl trivial⟩, ⟨⟨.inl rfl, .inl rfl, .inl rfl, ⟨rfl, rfl, rfl⟩, trivial⟩, .inl rfl, trivial⟩, rfl, rfl⟩
  have he2 : es.length ≤ 2000 := by omega
  refine Lp.intro (α := Nat) (fun i => i ≤ es.length ∧ ∀ j, j < i → EdgeH l n (es.getD j default)) (fun i => es.length - i) (fun i => [(0, .int .i64 l), (1, .int .i64 n), (3, .val (edgeRows es)), (8, .ptr 0 0 0), (9, .bool false), (10, .ptr 1 0 0), (11, .ref 2 0 (n.toNat * l.toNat * n.toNat)), (12, .int .i64 i)])
    (fun i => [some (.box [.int .i64 0, .int .i64 0, .int .i64 0, .snil]), some (.box [.int .i64 l, .int .i64 n, .int .i64 st, .snil]), some (.arr 1 (ints (marksL l.toNat n.toNat (es.take i))))]) ?_ ?_
  · refine ⟨0, ⟨Nat.zero_le _, fun j hj => by omega⟩, [some 0, some 1, some 2], rfl, rfl, And.intro ⟨.inl rfl, .inl rfl, .inl rfl, .inl rfl, trivial⟩ (And.intro ⟨.inl rfl, .inl rfl, .inl rfl, .inl rfl, trivial⟩ (And.intro ⟨rfl, ?_⟩ trivial)), ?_⟩
    · show List.replicate (n * l * n).toNat [AV.int .i64 0] = _
      rw [List.take_zero, marksL_nil, p3, Int.toNat_natCast]
      simp [ints]
    · repeat' (first
        | exact trivial
        | refine ⟨?_, ?_⟩
        | fail)
      all_goals first
        | with_reducible rfl
        | (conv => whnf
           try left
           conv => lhs; whnf
           first
             | rfl
             | exact congrArg (AV.int .i64) (by omega)
             | skip)
      rw [p3, Int.toNat_natCast]
  intro i hi
  obtain ⟨hi, hpre⟩ := hi
  have hml := length_ints (marksL l.toNat n.toNat (es.take i))
  rw [length_marksL] at hml
  refine vc2_sound hR _ _ _ _ _ ?_
  by_cases hlt : i < es.length
  · have hat := edge_at hlt
    have hts := take_succ_E hlt
    by_cases hE : EdgeH l n (es.getD i default)
    · have hix := ixE_int (by omega) (by omega) hE
      have hlt2 : ixE l.toNat n.toNat (es.getD i default) < n.toNat * l.toNat * n.toNat := ixE_lt (by unfold EdgeH at hE; omega) (by unfold EdgeH at hE; omega) (by unfold EdgeH at hE; omega)
      have hpre' : ∀ j, j < i + 1 → EdgeH l n (es.getD j default) := fun j hj => by
        rcases Nat.lt_or_ge j i with g | g
        · exact hpre j g
        · obtain rfl : j = i := by omega
          exact hE
      have hst := fun x => marks_step (l := l.toNat) (n := n.toNat) (es := es.take i) (e := es.getD i default) (x := x)
      have hma := marksL_at (es := es.take i) hlt2
      have q1 : 0 ≤ (es.getD i default).src * l ∧ (es.getD i default).src * l ≤ 31 * 8 := ⟨Int.mul_nonneg hE.1.1 (by omega), Int.mul_le_mul (by have := hE.1.2; omega) (by omega) (by omega) (by omega)⟩
      have q2 : 0 ≤ ((es.getD i default).src * l + (es.getD i default).letter) * n ∧ ((es.getD i default).src * l + (es.getD i default).letter) * n ≤ 256 * 31 := ⟨Int.mul_nonneg (by have := hE.2.2.1; omega) (by omega), Int.mul_le_mul (by have := hE.2.2.2; omega) (by omega) (by omega) (by omega)⟩
      rw [hts] at hst
      generalize es.getD i default = e at *
      unfold EdgeH at hE
      generalize hk : ixE l.toNat n.toNat e = k at *
      obtain ⟨e1, e2, e3, e4⟩ := e
      dsimp only at *
      have hcell : (ints (marksL l.toNat n.toNat (es.take i)))[0 + ((e1 * l + e2) * n + e3).toNat]? = some [.int .i64 (markN l.toNat n.toNat (es.take i) k)] := by
        rw [hix, ints_at0 (by rw [length_marksL]; exact hlt2), hma]
      have hat' : (edgeRows es)[((i : Nat) : Int).toNat]? = some [.int .i64 e1, .int .i64 e2, .int .i64 e3, .bool e4] := hat
      clear hat
      cases e4
      all_goals
        conv => whnf
        repeat' ((first | contradiction | (refine And.intro (fun hb => ?_) (fun hb => ?_) <;> first | contradiction | ((try simp only [SB, reduceCtorEq] at hb); try (exfalso; first | contradiction | omega))) | rw [hat'] | rw [hcell] | refine G2 ?_ | rw [ints_at (by omega)] | rw [ints_at0 (by omega)] | rw [ints_at' (by omega) (by omega)] | refine G1 ?_ | refine ⟨_, _, RState_mk (by omega) (by omega), ?_⟩ | refine ⟨_, _, RIn_mk, ?_⟩ | refine ⟨_, _, RMax_mk, ?_⟩ | fail) <;> conv => whnf)
        refine ⟨i + 1, ⟨hlt, hpre'⟩, by omega, [some 0, some 1, some 2], rfl, rfl, And.intro ⟨.inl rfl, .inl rfl, .inl rfl, .inl rfl, trivial⟩ (And.intro ⟨.inl rfl, .inl rfl, .inl rfl, .inl rfl, trivial⟩ (And.intro ⟨rfl, ?_⟩ trivial)), ?_⟩
        · refine Eq.trans ?_ (congrArg ints (hst _ rfl hlt2))
          rw [← ints_setM]
          show List.set _ (0 + ((e1 * l + e2) * n + e3).toNat) _ = _
          rw [hix, Nat.zero_add, Int.toNat_natCast]
          rfl
        · repeat' (first
            | exact trivial
            | refine ⟨?_, ?_⟩
            | fail)
          all_goals first
            | with_reducible rfl
            | (conv => whnf
               try left
               conv => lhs; whnf
               first
                 | rfl
                 | exact congrArg (AV.int .i64) (by omega)
                 | skip)
    · rw [show makeD l n st es = (zeroAuto, false) from if_neg (fun h => hE (h.2.2 i hlt))]
      generalize es.getD i default = e at *
      unfold EdgeH at hE
      conv => whnf
      repeat' ((first | contradiction | (refine And.intro (fun hb => ?_) (fun hb => ?_) <;> first | contradiction | ((try simp only [SB, reduceCtorEq] at hb); try (exfalso; first | contradiction | omega))) | rw [hat] | refine G2 ?_ | rw [ints_at (by omega)] | rw [ints_at0 (by omega)] | rw [ints_at' (by omega) (by omega)] | refine G1 ?_ | refine ⟨_, _, RState_mk (by omega) (by omega), ?_⟩ | refine ⟨_, _, RIn_mk, ?_⟩ | fail) <;> conv => whnf)
      all_goals
        refine ⟨.inl rfl, ?_⟩
        conv => whnf
        exact ⟨Nat.le_refl 4, [none], ⟨rfl, And.intro rfl trivial⟩, ⟨⟨.inl rfl, .inl rfl, .inl rfl, ⟨rfl, rfl, rfl⟩, trivial⟩, .inl rfl, trivial⟩, rfl, rfl⟩
  · obtain rfl : i = es.length := by omega
    rw [show makeD l n st es = (⟨l, n, st, mkAll l.toNat n.toNat es⟩, true) from if_pos ⟨hH, he2, hpre⟩]
    rw [List.take_length] at *
    conv => whnf
    repeat' ((first | contradiction | (refine And.intro (fun hb => ?_) (fun hb => ?_) <;> first | contradiction | ((try simp only [SB, reduceCtorEq] at hb); try (exfalso; first | contradiction | omega))) | refine G2 ?_ | rw [ints_at (by omega)] | rw [ints_at0 (by omega)] | rw [ints_at' (by omega) (by omega)] | refine G1 ?_ | fail) <;> conv => whnf)
    refine Lp.intro (α := Nat) (fun k => k ≤ n.toNat * l.toNat * n.toNat) (fun k => n.toNat * l.toNat * n.toNat - k) (fun k => [(0, .int .i64 l), (1, .int .i64 n), (8, .ptr 0 0 0), (9, .bool false), (10, .ptr 1 0 0), (11, .ref 2 0 (n.toNat * l.toNat * n.toNat)), (16, .int .i64 k)])
      (fun k => [some (.box [.int .i64 0, .int .i64 0, .int .i64 0, .snil]), some (.box [.int .i64 l, .int .i64 n, .int .i64 st, .ref 3 0 (mkEs l.toNat n.toNat es k).length]), some (.arr 1 (ints (marksL l.toNat n.toNat es))), some (.arr 4 (edgeRows (mkEs l.toNat n.toNat es k)))]) ?_ ?_
    · refine ⟨0, Nat.zero_le _, [some 0, some 1, some 2, none], rfl, rfl, And.intro ⟨.inl rfl, .inl rfl, .inl rfl, .inl rfl, trivial⟩ (And.intro ⟨.inl rfl, .inl rfl, .inl rfl, ⟨rfl, rfl, rfl⟩, trivial⟩ (And.intro ⟨rfl, rfl⟩ (And.intro rfl trivial))), ?_⟩
      repeat' (first
        | exact trivial
        | refine ⟨?_, ?_⟩
        | fail)
      all_goals first
        | with_reducible rfl
        | (conv => whnf
           try left
           conv => lhs; whnf
           first
             | rfl
             | exact congrArg (AV.int .i64) (by omega)
             | skip)
    intro k hk
    have hml := length_ints (marksL l.toNat n.toNat es)
    rw [length_marksL] at hml
    refine vc2_sound hR _ _ _ _ _ ?_
    by_cases hlt : k < n.toNat * l.toNat * n.toNat
    · have hma := marksL_at (es := es) hlt
      have hcell : (ints (marksL l.toNat n.toNat es))[0 + ((k : Nat) : Int).toNat]? = some [.int .i64 (markN l.toNat n.toNat es k)] := by
        rw [ints_at0 (by rw [length_marksL]; exact hlt), hma]
      by_cases h0 : 0 < markN l.toNat n.toNat es k
      · have hn0 : n ≠ 0 := by
          intro h
          rw [h] at hlt
          simp at hlt
        have hl0 : l ≠ 0 := by omega
        have hkn : k / n.toNat ≤ 100000000 := by have := Nat.div_le_self k n.toNat; omega
        have hml := mkEs_le (l := l.toNat) (n := n.toNat) (es := es) k
        have hmr := length_edgeRows (mkEs l.toNat n.toNat es k)
        conv => whnf
        repeat' ((first | contradiction | (refine And.intro (fun hb => ?_) (fun hb => ?_) <;> first | contradiction | ((try simp only [SB, reduceCtorEq] at hb); try (exfalso; first | contradiction | omega))) | rw [hcell] | rw [quo_nat (by omega) (by omega)] | rw [rem_nat (by omega)] | refine G2 ?_ | rw [ints_at (by omega)] | rw [ints_at0 (by omega)] | rw [ints_at' (by omega) (by omega)] | refine G1 ?_ | refine And.intro hn0 ?_ | refine And.intro hl0 ?_ | refine ⟨_, rfl, ?_⟩ | fail) <;> conv => whnf)
        · have hm2 : (markN l.toNat n.toNat es k == 2) = true := by
            simp only [beq_iff_eq, beq_eq_false_iff_ne]; omega
          have hc : cellE l.toNat n.toNat es k = [ofIx l.toNat n.toNat k true] := by unfold cellE; rw [if_pos h0, hm2]
          refine ⟨k + 1, by omega, by omega, [some 0, some 1, some 2, some 4], rfl, rfl, And.intro ⟨.inl rfl, .inl rfl, .inl rfl, .inl rfl, trivial⟩ (And.intro ⟨.inl rfl, .inl rfl, .inl rfl, ?_, trivial⟩ (And.intro ⟨rfl, rfl⟩ (And.intro ⟨rfl, ?_⟩ trivial))), ?_⟩
          · rw [mkEs_succ, hc, List.length_append]; exact rfl
          · rw [mkEs_succ, hc]
            exact make_app
          · repeat' (first
              | exact trivial
              | refine ⟨?_, ?_⟩
              | fail)
            all_goals first
              | with_reducible rfl
              | (conv => whnf
                 try left
                 conv => lhs; whnf
                 first
                   | rfl
                   | exact congrArg (AV.int .i64) (by omega)
                   | skip)
        · have hm2 : (markN l.toNat n.toNat es k == 2) = false := by
            simp only [beq_iff_eq, beq_eq_false_iff_ne]; omega
          have hc : cellE l.toNat n.toNat es k = [ofIx l.toNat n.toNat k false] := by unfold cellE; rw [if_pos h0, hm2]
          refine ⟨k + 1, by omega, by omega, [some 0, some 1, some 2, some 4], rfl, rfl, And.intro ⟨.inl rfl, .inl rfl, .inl rfl, .inl rfl, trivial⟩ (And.intro ⟨.inl rfl, .inl rfl, .inl rfl, ?_, trivial⟩ (And.intro ⟨rfl, rfl⟩ (And.intro ⟨rfl, ?_⟩ trivial))), ?_⟩
          · rw [mkEs_succ, hc, List.length_append]; exact rfl
          · rw [mkEs_succ, hc]
            exact make_app
          · repeat' (first
              | exact trivial
              | refine ⟨?_, ?_⟩
              | fail)
            all_goals first
              | with_reducible rfl
              | (conv => whnf
                 try left
                 conv => lhs; whnf
                 first
                   | rfl
                   | exact congrArg (AV.int .i64) (by omega)
                   | skip)
      · conv => whnf
        repeat' ((first | contradiction | (refine And.intro (fun hb => ?_) (fun hb => ?_) <;> first | contradiction | ((try simp only [SB, reduceCtorEq] at hb); try (exfalso; first | contradiction | omega))) | rw [hcell] | refine G2 ?_ | rw [ints_at (by omega)] | rw [ints_at0 (by omega)] | rw [ints_at' (by omega) (by omega)] | refine G1 ?_ | fail) <;> conv => whnf)
        have hc : cellE l.toNat n.toNat es k = [] := if_neg h0
        refine ⟨k + 1, by omega, by omega, [some 0, some 1, some 2, some 3], rfl, rfl, And.intro ⟨.inl rfl, .inl rfl, .inl rfl, .inl rfl, trivial⟩ (And.intro ⟨.inl rfl, .inl rfl, .inl rfl, ?_, trivial⟩ (And.intro ⟨rfl, rfl⟩ (And.intro ⟨rfl, ?_⟩ trivial))), ?_⟩
        · rw [mkEs_succ, hc, List.append_nil]; exact rfl
        · rw [mkEs_succ, hc, List.append_nil]
        · repeat' (first
            | exact trivial
            | refine ⟨?_, ?_⟩
            | fail)
          all_goals first
            | with_reducible rfl
            | (conv => whnf
               try left
               conv => lhs; whnf
               first
                 | rfl
                 | exact congrArg (AV.int .i64) (by omega)
                 | skip)
    · obtain rfl : k = n.toNat * l.toNat * n.toNat := by omega
      conv => whnf
      repeat' ((first | contradiction | (refine And.intro (fun hb => ?_) (fun hb => ?_) <;> first | contradiction | ((try simp only [SB, reduceCtorEq] at hb); try (exfalso; first | contradiction | omega))) | refine G2 ?_ | rw [ints_at (by omega)] | rw [ints_at0 (by omega)] | rw [ints_at' (by omega) (by omega)] | refine G1 ?_ | fail) <;> conv => whnf)
      refine ⟨.inl rfl, ?_⟩
      conv => whnf
      exact ⟨Nat.le_refl 4, [some 3], ⟨rfl, And.intro ⟨rfl, rfl⟩ trivial⟩, ⟨⟨.inl rfl, .inl rfl, .inl rfl, rfl, trivial⟩, .inl rfl, trivial⟩, rfl, by simp [AObj.nov, edgeRows_nov]⟩
def c_spec_l4DrawEdges : ICode := (.seq (.reg [Ol 8 .mv [.c .snil]]) (.seq (.reg [O0 11 .bsle, O1 9 .mv 11]) (.seq (.seq (.reg [Ol 10 .mv [ci 0]]) (.block 0 (.loop (.seq (.seq (.reg [O1 12 .mv 10, O1 13 .mv 3, O2 14 (.bin .lss) 12 13]) (.cond (.t 14) .skip (.exit 0))) (.seq (.block 1 (.reg [O1 17 .mv 9, O1 18 .mv 0, O1 19 .mv 2, O2 20 (.call 137) 18 19, O1 21 .mv 0, O1 22 .mv 1, O2 23 (.call 137) 21 22, O1 24 .mv 0, O1 25 .mv 2, O2 26 (.call 137) 24 25, O1 27 .mv 0, Ol 28 (.call 139) [.t 27, ci 3], Ol 29 (.bld [(.int .i64 0), (.int .i64 0), (.int .i64 0), (.bool false)] [(0, 1), (1, 1), (2, 1), (3, 1)]) [.t 20, .t 23, .t 26, .t 28], O1 30 (.bslv 4) 29, O2 31 (.app 4 32) 17 30, O1 9 .mv 31])) (.reg [O1 15 .mv 10, Ol 16 (.bin .add) [.t 15, ci 1], O1 10 .mv 16])))))) (.seq (.reg [O1 32 .mv 9, O1 8 .mv 32]) .ret))))
theorem b_spec_l4DrawEdges : Body Try.prog 205 33 c_spec_l4DrawEdges [(.t 8)] := body_mk Try.func205 (by kernel_rfl) (by decide)
def c_spec_l4DrawRight : ICode := (.seq (.reg [O0 6 (.alc [(.int .i64 0), (.int .i64 0), (.int .i64 0), .snil])]) (.seq (.reg [O1 10 .mv 0, O1 11 .mv 2, O2 12 (.call 137) 10 11, Ol 13 (.bin .add) [ci 1, .t 12], O1 7 .mv 13]) (.seq (.reg [O1 15 .mv 1, O1 16 .mv 7, O1 17 .mv 0, O1 18 .mv 7, Ol 19 (.bin .shl) [ci 1, .t 18], O2 20 (.call 137) 17 19, Ol 21 (.bin .or) [ci 1, .t 20], O1 22 .mv 0, O1 23 .mv 1, O1 24 .mv 7, O1 25 .mv 0, O1 26 .mv 7, Ol 27 (.bin .mul) [ci 2, .t 26], O1 28 .mv 1, O2 29 (.bin .mul) 27 28, O2 30 (.call 137) 25 29, Ol 31 (.bin .add) [ci 1, .t 30], Ol 32 (.call 205) [.t 22, .t 23, .t 24, .t 31], Ol 33 (.call 154) [.t 15, .t 16, .t 21, .t 32], O1 14 .mv 33, O1 34 (.ext 0) 14, O1 35 (.ext 1) 14, O0 8 (.alc [(.int .i64 0), (.int .i64 0), (.int .i64 0), .snil]), S2 (.st 4) 8 34, O1 9 .mv 35]) (.seq (.reg [O1 36 (.ldn 4) 8, S2 (.st 4) 6 36]) .ret))))
theorem b_spec_l4DrawRight : Body Try.prog 187 37 c_spec_l4DrawRight [(.cn 6 4)] := body_mk Try.func187 (by kernel_rfl) (by decide)
def c_spec_l4DrawAuto : ICode := (.seq (.reg [O0 4 (.alc [(.int .i64 0), (.int .i64 0), (.int .i64 0), .snil])]) (.seq (.reg [O1 6 .mv 0, O1 7 .mv 0, Ol 8 (.bsl 1) [ci 1, ci 2, ci 2, ci 2, ci 3, ci 4], O2 9 (.call 188) 7 8, O1 10 .mv 1, O3 11 (.call 187) 6 9 10, O0 5 (.alc [(.int .i64 0), (.int .i64 0), (.int .i64 0), .snil]), S2 (.st 4) 5 11]) (.seq (.seq (.reg [O1 12 .mv 0, Ol 13 (.call 137) [.t 12, ci 30]]) (.block 0 (.seq (.reg [Ol 15 (.bin .eql) [.t 13, ci 0], O1 14 .mv 15]) (.cond (.t 14) (.reg [O1 16 .mv 0, Ol 17 (.bsl 1) [ci 0, ci 8, ci 9], O2 18 (.call 188) 16 17, O1 19 (.fadr 0) 5, S2 (.st 1) 19 18]) (.seq (.reg [Ol 21 (.bin .eql) [.t 13, ci 1], O1 20 .mv 21]) (.cond (.t 20) (.reg [O1 22 .mv 0, Ol 23 (.bsl 1) [ci 0, ci (-1), ci 31, ci 32], O2 24 (.call 188) 22 23, O1 25 (.fadr 1) 5, S2 (.st 1) 25 24]) (.seq (.reg [Ol 27 (.bin .eql) [.t 13, ci 2], O1 26 .mv 27]) (.cond (.t 26) (.reg [O1 28 .mv 0, Ol 29 (.bsl 1) [ci (-1), ci 0, ci 1048576], O2 30 (.call 188) 28 29, O1 31 (.fadr 2) 5, S2 (.st 1) 31 30]) (.seq (.reg [Ol 33 (.bin .eql) [.t 13, ci 3], O1 32 .mv 33]) (.cond (.t 32) (.reg [O1 34 (.fadr 3) 5, O1 35 .ld1 34, O0 36 (.bld [(.int .i64 0), (.int .i64 0), (.int .i64 0), (.bool false)] []), O1 37 (.bslv 4) 36, O2 38 (.app 4 32) 35 37, O1 39 (.fadr 3) 5, S2 (.st 1) 39 38]) (.seq (.reg [Ol 41 (.bin .eql) [.t 13, ci 4], O1 40 .mv 41]) (.cond (.t 40) (.reg [O1 42 (.fadr 3) 5, O1 43 .ld1 42, O1 44 (.fadr 1) 5, O1 45 .ld1 44, O1 46 (.bld [(.int .i64 0), (.int .i64 0), (.int .i64 0), (.bool false)] [(0, 1)]) 45, O1 47 (.bslv 4) 46, O2 48 (.app 4 32) 43 47, O1 49 (.fadr 3) 5, S2 (.st 1) 49 48]) .skip)))))))))))) (.seq (.reg [O1 50 (.ldn 4) 5, S2 (.st 4) 4 50]) .ret))))
theorem b_spec_l4DrawAuto : Body Try.prog 138 51 c_spec_l4DrawAuto [(.cn 4 4)] := body_mk Try.func138 (by kernel_rfl) (by decide)
theorem GOnce_nv (xs : List AV) (objs : List AObj) (Q : AV → List (Option AObj) → Prop) (h : GOnce xs objs Q) : ∃ r out, Q r out := by
  obtain ⟨code, i, h, n, _, _, _, _, _, hq⟩ := h
  exact ⟨_, _, hq false 0 0 (Nat.zero_le _)⟩
def GEdges : GFun := fun xs objs Q => ∃ (code : List UInt8) (i : Nat) (h l n m : Int), xs = [.ptr 0 0 0, .int .i64 l, .int .i64 n, .int .i64 m] ∧ objs = [curO code i h] ∧ i ≤ code.length ∧ code.length ≤ 1048576 ∧ 0 ≤ m ∧ m ≤ 2000 ∧ l ≤ 1073741824 ∧ n ≤ 1073741824 ∧
  ∀ (es : List EdgeD) (i' : Nat) (h' : Int), es.length ≤ m → i' ≤ code.length → Q (.ref 1 0 es.length) [some (curO code i' h'), some (.arr 4 (edgeRows es))]
theorem GEdges_mk {code : List UInt8} {i : Nat} {h l n m : Int} {Q : AV → List (Option AObj) → Prop} (h1 : i ≤ code.length) (h2 : code.length ≤ 1048576) (h3 : 0 ≤ m ∧ m ≤ 2000) (h4 : l ≤ 1073741824) (h5 : n ≤ 1073741824)
    (hq : ∀ (es : List EdgeD) (i' : Nat) (h' : Int), es.length ≤ m → i' ≤ code.length → Q (.ref 1 0 es.length) [some (curO code i' h'), some (.arr 4 (edgeRows es))]) : GEdges [.ptr 0 0 0, .int .i64 l, .int .i64 n, .int .i64 m] [curO code i h] Q :=
  ⟨code, i, h, l, n, m, rfl, rfl, h1, h2, h3.1, h3.2, h4, h5, hq⟩
theorem app_edge (M : List EdgeD) (a b c : Int) (d : Bool) : List.take M.length (edgeRows M) ++ [[.int .i64 a, .int .i64 b, .int .i64 c, .bool d]] = edgeRows (M ++ [⟨a, b, c, d⟩]) := by
  rw [List.take_of_length_le (by rw [length_edgeRows]; exact Nat.le_refl _)]
  simp [edgeRows, edgeRow]
theorem s_spec_l4DrawEdges : GenSound Try.prog 205 1 GEdges := by
  have hR : Rely Try.prog (ctxOf [(137, .gen 1 GBelow), (139, .gen 1 GOnce)]) := rely_cons b_spec_l1Below.has s_spec_l1Below (rely_cons b_spec_l1Once.has s_spec_l1Once (rely_nil mixed))
  refine gen_of_aw b_spec_l4DrawEdges ?_
  rintro xs objs Q - ⟨code, i, h, l, n, m, rfl, rfl, h1, h2, h3, h3', h4, h5, hq⟩ -
  refine ⟨by simp, vc2_sound hR _ _ _ _ _ ?_⟩
  conv => whnf
  repeat' ((first | (refine And.intro (fun hb => ?_) (fun hb => ?_) <;> ((try simp only [SB, reduceCtorEq] at hb); try (exfalso; omega))) | refine G2 ?_ | rw [ints_at (by omega)] | rw [ints_at0 (by omega)] | rw [ints_at' (by omega) (by omega)] | refine G1 ?_ | fail) <;> conv => whnf)
  refine Lp.intro (α := List EdgeD × Nat × Int) (fun a => (a.1.length : Int) ≤ m ∧ a.2.1 ≤ code.length) (fun a => m.toNat - a.1.length) (fun a => [(0, .ptr 0 0 0), (1, .int .i64 l), (2, .int .i64 n), (3, .int .i64 m), (9, .ref 1 0 a.1.length), (10, .int .i64 a.1.length)])
    (fun a => [some (curO code a.2.1 a.2.2), some (.arr 4 (edgeRows a.1))]) ?_ ?_
  · refine ⟨([], i, h), ⟨h3, h1⟩, [some 0, none], rfl, rfl, ?_, ?_⟩
    · exact And.intro (And.intro (.inl rfl) (And.intro (.inl rfl) (And.intro (.inl rfl) trivial))) (And.intro rfl trivial)
    · repeat' (first
        | exact trivial
        | refine ⟨?_, ?_⟩
        | fail)
      all_goals first
        | with_reducible rfl
        | (conv => whnf
           try left
           conv => lhs; whnf
           first
             | rfl
             | exact congrArg (AV.int .i64) (by omega)
             | skip)
  · rintro ⟨es, i2, h2'⟩ ⟨hl, hi2⟩
    dsimp only at hl hi2 ⊢
    have hil := length_edgeRows es
    refine vc2_sound hR _ _ _ _ _ ?_
    conv => whnf
    repeat' ((first | (refine And.intro (fun hb => ?_) (fun hb => ?_) <;> ((try simp only [SB, reduceCtorEq] at hb); try (exfalso; omega))) | refine G2 ?_ | rw [ints_at (by omega)] | rw [ints_at0 (by omega)] | rw [ints_at' (by omega) (by omega)] | refine G1 ?_ | refine ⟨GBelow_mk (by omega) (by omega) (by omega) (fun y i' h' hx0 hx1 hi' => ?_)⟩ | refine ⟨GOnce_mk (by omega) (by omega) (by omega) (fun b i' h' hi' => ?_)⟩ | fail) <;> conv => whnf)
    · obtain rfl : b = true := by simpa using hb
      rename_i y1 a1 a2 a3 a4 a5 y2 b1 b2 b3 b4 b5 c1 c2 c3
      refine ⟨(es ++ [⟨y1, y2, y, true⟩], i', h'), ⟨by simp; omega, hi'⟩, by simp; omega, [some 0, some 2], rfl, rfl, ?_, ?_⟩
      · exact And.intro (And.intro (.inl rfl) (And.intro (.inl rfl) (And.intro (.inl rfl) trivial))) (And.intro (And.intro rfl (app_edge es _ _ _ _)) trivial)
      · repeat' (first
          | exact trivial
          | refine ⟨?_, ?_⟩
          | fail)
        all_goals first
          | with_reducible rfl
          | (conv => whnf
             try left
             conv => lhs; whnf
             first
               | rfl
               | exact congrArg (AV.int .i64) (by omega)
               | skip)
        all_goals simp
    · obtain rfl : b = false := by simpa using hb
      rename_i y1 a1 a2 a3 a4 a5 y2 b1 b2 b3 b4 b5 c1 c2 c3
      refine ⟨(es ++ [⟨y1, y2, y, false⟩], i', h'), ⟨by simp; omega, hi'⟩, by simp; omega, [some 0, some 2], rfl, rfl, ?_, ?_⟩
      · exact And.intro (And.intro (.inl rfl) (And.intro (.inl rfl) (And.intro (.inl rfl) trivial))) (And.intro (And.intro rfl (app_edge es _ _ _ _)) trivial)
      · repeat' (first
          | exact trivial
          | refine ⟨?_, ?_⟩
          | fail)
        all_goals first
          | with_reducible rfl
          | (conv => whnf
             try left
             conv => lhs; whnf
             first
               | rfl
               | exact congrArg (AV.int .i64) (by omega)
               | skip)
        all_goals simp
    · refine ⟨.inl rfl, ?_⟩
      conv => whnf
      refine ⟨[some 0, some 1], .ref 1 0 es.length, [some (curO code i2 h2'), some (.arr 4 (edgeRows es))], ⟨rfl, And.intro (And.intro (.inl rfl) (And.intro (.inl rfl) (And.intro (.inl rfl) trivial))) (And.intro (And.intro rfl rfl) trivial)⟩, rfl, rfl, hq es i2 h2' (by omega) hi2⟩
theorem makeD_small {l n st : Int} {es : List EdgeD} : (makeD l n st es).1.edges.length ≤ 7688 := by
  unfold makeD
  split
  · rename_i h
    have h1 := h.1
    unfold HeadOk at h1
    have h2 := mkEs_le (l := l.toNat) (n := n.toNat) (es := es) (n.toNat * l.toNat * n.toNat)
    have h3 : n.toNat * l.toNat ≤ 31 * 8 := Nat.mul_le_mul (by omega) (by omega)
    have h4 : n.toNat * l.toNat * n.toNat ≤ 31 * 8 * 31 := Nat.mul_le_mul h3 (by omega)
    show (mkEs l.toNat n.toNat es (n.toNat * l.toNat * n.toNat)).length ≤ 7688
    omega
  · simp [zeroAuto]
theorem RMake_eq {xs : List AV} {l n st : Int} {es : List EdgeD} (hx : xs = [.int .i64 l, .int .i64 n, .int .i64 st, .val (edgeRows es)]) (h : es.length ≤ 1048576) : RMake xs (makeR (makeD l n st es)) [.arr 4 (edgeRows (makeD l n st es).1.edges)] := ⟨l, n, st, es, hx, h, rfl, rfl⟩
def GAuto (B : Nat) (G : Int → Int → Prop) : GFun := fun xs objs Q => ∃ (code : List UInt8) (i : Nat) (h l n : Int), xs = [.ptr 0 0 0, .int .i64 l, .int .i64 n] ∧ objs = [curO code i h] ∧ i ≤ code.length ∧ code.length ≤ 1048576 ∧ G l n ∧
  ∀ (a : AutoD) (i' : Nat) (h' : Int), a.edges.length ≤ B → i' ≤ code.length → Q (.agg (autoRef 1 a)) [some (curO code i' h'), some (.arr 4 (edgeRows a.edges))]
abbrev GDrawRightA : GFun := GAuto 7688 fun l n => (1 ≤ l ∧ l ≤ 8) ∧ 1 ≤ n ∧ n ≤ 30
theorem GDrawRightA_mk {code : List UInt8} {i : Nat} {h l n : Int} {Q : AV → List (Option AObj) → Prop} (h1 : i ≤ code.length) (h2 : code.length ≤ 1048576) (h3 : 1 ≤ l ∧ l ≤ 8) (h4 : 1 ≤ n ∧ n ≤ 30)
    (hq : ∀ (a : AutoD) (i' : Nat) (h' : Int), a.edges.length ≤ 7688 → i' ≤ code.length → Q (.agg (autoRef 1 a)) [some (curO code i' h'), some (.arr 4 (edgeRows a.edges))]) : GDrawRightA [.ptr 0 0 0, .int .i64 l, .int .i64 n] [curO code i h] Q :=
  ⟨code, i, h, l, n, rfl, rfl, h1, h2, ⟨h3, h4⟩, hq⟩
theorem shl_small {s : Int} (h0 : 0 ≤ s) (h1 : s ≤ 30) : IntKind.i64.wrap (1 * 2 ^ (Nat.min s.toNat IntKind.i64.bits)) ≤ 1073741824 := by
  rw [shl_one h0 (by omega)]
  have h : (((2 : Nat) ^ s.toNat : Nat) : Int) ≤ ((2 ^ 30 : Nat) : Int) := Int.ofNat_le.2 (Nat.pow_le_pow_right (by decide) (by omega))
  rw [Int.natCast_pow] at h
  exact h
set_option maxHeartbeats 2000000 in
theorem s_spec_l4DrawRight : GenSound Try.prog 187 1 GDrawRightA := by
  have hR : Rely Try.prog (ctxOf [(137, .gen 1 GBelow), (154, .pure RMake), (205, .gen 1 GEdges)]) := rely_cons b_spec_l1Below.has s_spec_l1Below (rely_cons b_spec_AutoMake.has s_spec_AutoMake (rely_cons b_spec_l4DrawEdges.has s_spec_l4DrawEdges (rely_nil mixed)))
  refine gen_of_aw b_spec_l4DrawRight ?_
  rintro xs objs Q - ⟨code, i, h, l, n, rfl, rfl, h1, h2, ⟨h3, h4⟩, hq⟩ -
  refine ⟨by simp, vc2_sound hR _ _ _ _ _ ?_⟩
  conv => whnf
  repeat' ((first | (refine And.intro (fun hb => ?_) (fun hb => ?_) <;> ((try simp only [SB, reduceCtorEq] at hb); try (exfalso; omega))) | refine G2 ?_ | rw [ints_at (by omega)] | rw [ints_at0 (by omega)] | rw [ints_at' (by omega) (by omega)] | refine G1 ?_ | refine ⟨GBelow_mk (by omega) (by omega) (by omega) (fun y i' h' hx0 hx1 hi' => ?_)⟩ | fail) <;> conv => whnf)
  have hm : 0 ≤ 2 * (1 + y) * l ∧ 2 * (1 + y) * l ≤ 60 * 8 := ⟨Int.mul_nonneg (by omega) (by omega), Int.mul_le_mul (by omega) (by omega) (by omega) (by omega)⟩
  conv => whnf
  repeat' ((first | (refine And.intro (fun hb => ?_) (fun hb => ?_) <;> ((try simp only [SB, reduceCtorEq] at hb); try (exfalso; omega))) | refine G2 ?_ | rw [ints_at (by omega)] | rw [ints_at0 (by omega)] | rw [ints_at' (by omega) (by omega)] | refine G1 ?_ | refine ⟨GBelow_mk (by omega) (by omega) (by omega) (fun x i' h' hx0 hx1 hi' => ?_)⟩ | refine ⟨GBelow_mk (by omega) (by omega) (shl_small (by omega) (by omega)) (fun x i' h' hx0 hx1 hi' => ?_)⟩ | refine ⟨GEdges_mk (by omega) (by omega) (by omega) (by omega) (by omega) (fun es i' h' he hi' => ?_)⟩ | refine ⟨_, _, RMake_eq (args_cons rfl (args_cons rfl (args_cons rfl (args_cons (snap_all rfl (length_edgeRows _)) rfl)))) (by omega), ?_⟩ | fail) <;> conv => whnf)
  all_goals
    refine ⟨.inl rfl, ?_⟩
    conv => whnf
    refine And.intro (Nat.le_of_ble_eq_true rfl) ?_
    conv => whnf
    exact ⟨[some 0, some 3], .agg (autoRef 1 (makeD _ _ _ _).1), [some (curO code i' h'), some (.arr 4 (edgeRows (makeD _ _ _ _).1.edges))], ⟨rfl, And.intro (And.intro (.inl rfl) (And.intro (.inl rfl) (And.intro (.inl rfl) trivial))) (And.intro (And.intro rfl rfl) trivial)⟩, And.intro (.inl rfl) (And.intro (.inl rfl) (And.intro (.inl rfl) (And.intro rfl trivial))), rfl, hq _ i' h' makeD_small hi'⟩
def GDrawAuto : GFun := fun xs objs Q => ∃ (code : List UInt8) (i : Nat) (h n : Int), xs = [.ptr 0 0 0, .int .i64 n] ∧ objs = [curO code i h] ∧ i ≤ code.length ∧ code.length ≤ 1048576 ∧ (1 ≤ n ∧ n ≤ 30) ∧
  ∀ (a : AutoD) (i' : Nat) (h' : Int), a.edges.length ≤ 7689 → i' ≤ code.length → Q (.agg (autoRef 1 a)) [some (curO code i' h'), some (.arr 4 (edgeRows a.edges))]
theorem GDrawAuto_mk {code : List UInt8} {i : Nat} {h n : Int} {Q : AV → List (Option AObj) → Prop} (h1 : i ≤ code.length) (h2 : code.length ≤ 1048576) (h4 : 1 ≤ n ∧ n ≤ 30)
    (hq : ∀ (a : AutoD) (i' : Nat) (h' : Int), a.edges.length ≤ 7689 → i' ≤ code.length → Q (.agg (autoRef 1 a)) [some (curO code i' h'), some (.arr 4 (edgeRows a.edges))]) : GDrawAuto [.ptr 0 0 0, .int .i64 n] [curO code i h] Q :=
  ⟨code, i, h, n, rfl, rfl, h1, h2, h4, hq⟩
abbrev autL (_ : AutoD × Nat × Int) : List (Nat × AV) := [(0, .ptr 0 0 0), (4, .ptr 1 0 0), (5, .ptr 2 0 0)]
abbrev autO (code : List UInt8) (a : AutoD × Nat × Int) : List (Option AObj) := [some (curO code a.2.1 a.2.2), some (.box [.int .i64 0, .int .i64 0, .int .i64 0, .snil]), some (.box (autoRef 3 a.1)), some (.arr 4 (edgeRows a.1.edges))]
abbrev autI (code : List UInt8) (B : Nat) (a : AutoD × Nat × Int) : Prop := a.1.edges.length ≤ B ∧ a.2.1 ≤ code.length
theorem pick4 (j : Nat) (h : j < 6) : 1 ≤ ([1, 2, 2, 2, 3, 4] : List Int).getD j 0 ∧ ([1, 2, 2, 2, 3, 4] : List Int).getD j 0 ≤ 8 := by
  rcases j with _ | _ | _ | _ | _ | _ | j <;> first | (exfalso; omega) | simp
set_option maxHeartbeats 4000000 in
theorem s_spec_l4DrawAuto : GenSound Try.prog 138 1 GDrawAuto := by
  have hR : Rely Try.prog (ctxOf [(188, .gen 2 GPickInt), (137, .gen 1 GBelow), (187, .gen 1 GDrawRightA)]) :=
    rely_cons b_spec_l1PickInt.has s_spec_l1PickInt (rely_cons b_spec_l1Below.has s_spec_l1Below (rely_cons b_spec_l4DrawRight.has s_spec_l4DrawRight (rely_nil mixed)))
  refine gen_of_aw b_spec_l4DrawAuto ?_
  rintro xs objs Q - ⟨code, i, h, n, rfl, rfl, h1, h2, h4, hq⟩ -
  refine ⟨by simp, ?_⟩
  refine Aw.meet (α := Unit) (fun _ => True) (fun _ => [(0, .ptr 0 0 0), (1, .int .i64 n), (4, .ptr 1 0 0)]) (fun _ => [some (curO code i h), some (.box [.int .i64 0, .int .i64 0, .int .i64 0, .snil])]) ?_ ?_
  · refine vc2_sound hR _ _ _ _ _ ?_
    conv => whnf
    repeat' ((first | (refine And.intro (fun hb => ?_) (fun hb => ?_) <;> ((try simp only [SB, reduceCtorEq] at hb); try (exfalso; omega))) | refine G2 ?_ | rw [ints_at (by omega)] | rw [ints_at0 (by omega)] | rw [ints_at' (by omega) (by omega)] | refine G1 ?_ | fail) <;> conv => whnf)
    refine ⟨(), trivial, [some 0, some 1], rfl, rfl, ?_, ?_⟩
    · repeat' (first | exact trivial | exact rfl | exact Or.inl rfl | refine And.intro ?_ ?_)
    · repeat' (first
        | exact trivial
        | refine ⟨?_, ?_⟩
        | fail)
      all_goals first
        | with_reducible rfl
        | (conv => whnf
           try left
           conv => lhs; whnf
           first
             | rfl
             | exact congrArg (AV.int .i64) (by omega)
             | skip)
  rintro _ -
  refine Aw.meet (α := AutoD × Nat × Int) (autI code 7688) autL (autO code) ?_ ?_
  · refine vc2_sound hR _ _ _ _ _ ?_
    conv => whnf
    repeat' ((first | (refine And.intro (fun hb => ?_) (fun hb => ?_) <;> ((try simp only [SB, reduceCtorEq] at hb); try (exfalso; omega))) | refine G2 ?_ | rw [ints_at (by omega)] | rw [ints_at0 (by omega)] | rw [ints_at' (by omega) (by omega)] | refine G1 ?_ | refine ⟨GPickInt_mk (l := [1, 2, 2, 2, 3, 4]) (by omega) (by omega) (by simp) (by simp) (fun j i' h' hj hi' => ?_)⟩ | refine ⟨GDrawRightA_mk (by omega) (by omega) (pick4 _ (by assumption)) h4 (fun a i' h' ha hi' => ?_)⟩ | fail) <;> conv => whnf)
    refine ⟨(a, i', h'), ⟨ha, hi'⟩, [some 0, some 1, some 4, some 3], rfl, rfl, ?_, ?_⟩
    · exact And.intro (And.intro (.inl rfl) (And.intro (.inl rfl) (And.intro (.inl rfl) trivial))) (And.intro (And.intro (.inl rfl) (And.intro (.inl rfl) (And.intro (.inl rfl) (And.intro (.inl rfl) trivial)))) (And.intro (And.intro (.inl rfl) (And.intro (.inl rfl) (And.intro (.inl rfl) (And.intro rfl trivial)))) (And.intro (And.intro rfl rfl) trivial)))
    · repeat' (first
        | exact trivial
        | refine ⟨?_, ?_⟩
        | fail)
      all_goals first
        | with_reducible rfl
        | (conv => whnf
           try left
           conv => lhs; whnf
           first
             | rfl
             | exact congrArg (AV.int .i64) (by omega)
             | skip)
  rintro ⟨a, i1, h1'⟩ ⟨ha, hi1⟩
  dsimp only at ha hi1 ⊢
  refine Aw.meet (α := AutoD × Nat × Int) (autI code 7689) autL (autO code) ?_ ?_
  · have hil := length_edgeRows a.edges
    refine vc2_sound hR _ _ _ _ _ ?_
    conv => whnf
    repeat' ((first | (refine And.intro (fun hb => ?_) (fun hb => ?_) <;> ((try simp only [SB, reduceCtorEq] at hb); try (exfalso; omega))) | refine G2 ?_ | rw [ints_at (by omega)] | rw [ints_at0 (by omega)] | rw [ints_at' (by omega) (by omega)] | refine G1 ?_ | refine ⟨GPickInt_mk (l := [0, 8, 9]) (by omega) (by omega) (by simp) (by simp) (fun j i' h' hj hi' => ?_)⟩ | refine ⟨GPickInt_mk (l := [0, -1, 31, 32]) (by omega) (by omega) (by simp) (by simp) (fun j i' h' hj hi' => ?_)⟩ | refine ⟨GPickInt_mk (l := [-1, 0, 1048576]) (by omega) (by omega) (by simp) (by simp) (fun j i' h' hj hi' => ?_)⟩ | refine ⟨GBelow_mk (by omega) (by omega) (by omega) (fun x i' h' hx0 hx1 hi' => ?_)⟩ | fail) <;> conv => whnf)
    · refine ⟨(⟨([0, 8, 9] : List Int).getD j 0, a.states, a.start, a.edges⟩, i', h'), ⟨by dsimp only; omega, hi'⟩, [some 0, some 1, some 2, some 3], rfl, rfl, ?_, ?_⟩
      · exact And.intro (And.intro (.inl rfl) (And.intro (.inl rfl) (And.intro (.inl rfl) trivial))) (And.intro (And.intro (.inl rfl) (And.intro (.inl rfl) (And.intro (.inl rfl) (And.intro (.inl rfl) trivial)))) (And.intro (And.intro (.inl rfl) (And.intro (.inl rfl) (And.intro (.inl rfl) (And.intro rfl trivial)))) (And.intro (And.intro rfl rfl) trivial)))
      · repeat' (first
          | exact trivial
          | refine ⟨?_, ?_⟩
          | fail)
        all_goals first
          | with_reducible rfl
          | (conv => whnf
             try left
             conv => lhs; whnf
             first
               | rfl
               | exact congrArg (AV.int .i64) (by omega)
               | skip)
    · refine ⟨(⟨a.letters, ([0, -1, 31, 32] : List Int).getD j 0, a.start, a.edges⟩, i', h'), ⟨by dsimp only; omega, hi'⟩, [some 0, some 1, some 2, some 3], rfl, rfl, ?_, ?_⟩
      · exact And.intro (And.intro (.inl rfl) (And.intro (.inl rfl) (And.intro (.inl rfl) trivial))) (And.intro (And.intro (.inl rfl) (And.intro (.inl rfl) (And.intro (.inl rfl) (And.intro (.inl rfl) trivial)))) (And.intro (And.intro (.inl rfl) (And.intro (.inl rfl) (And.intro (.inl rfl) (And.intro rfl trivial)))) (And.intro (And.intro rfl rfl) trivial)))
      · repeat' (first
          | exact trivial
          | refine ⟨?_, ?_⟩
          | fail)
        all_goals first
          | with_reducible rfl
          | (conv => whnf
             try left
             conv => lhs; whnf
             first
               | rfl
               | exact congrArg (AV.int .i64) (by omega)
               | skip)
    · refine ⟨(⟨a.letters, a.states, ([-1, 0, 1048576] : List Int).getD j 0, a.edges⟩, i', h'), ⟨by dsimp only; omega, hi'⟩, [some 0, some 1, some 2, some 3], rfl, rfl, ?_, ?_⟩
      · exact And.intro (And.intro (.inl rfl) (And.intro (.inl rfl) (And.intro (.inl rfl) trivial))) (And.intro (And.intro (.inl rfl) (And.intro (.inl rfl) (And.intro (.inl rfl) (And.intro (.inl rfl) trivial)))) (And.intro (And.intro (.inl rfl) (And.intro (.inl rfl) (And.intro (.inl rfl) (And.intro rfl trivial)))) (And.intro (And.intro rfl rfl) trivial)))
      · repeat' (first
          | exact trivial
          | refine ⟨?_, ?_⟩
          | fail)
        all_goals first
          | with_reducible rfl
          | (conv => whnf
             try left
             conv => lhs; whnf
             first
               | rfl
               | exact congrArg (AV.int .i64) (by omega)
               | skip)
    · refine ⟨(⟨a.letters, a.states, a.start, a.edges ++ [⟨0, 0, 0, false⟩]⟩, i', h'), ⟨by simp; omega, hi'⟩, [some 0, some 1, some 2, some 4], rfl, rfl, ?_, ?_⟩
      · refine And.intro (And.intro (.inl rfl) (And.intro (.inl rfl) (And.intro (.inl rfl) trivial))) (And.intro (And.intro (.inl rfl) (And.intro (.inl rfl) (And.intro (.inl rfl) (And.intro (.inl rfl) trivial)))) (And.intro (And.intro (.inl rfl) (And.intro (.inl rfl) (And.intro (.inl rfl) (And.intro ?_ trivial)))) (And.intro (And.intro rfl (app_edge a.edges _ _ _ _)) trivial)))
        show AV.ref 4 0 (a.edges.length + 1) = AV.ref 4 0 (a.edges ++ [(⟨0, 0, 0, false⟩ : EdgeD)]).length
        simp
      · repeat' (first
          | exact trivial
          | refine ⟨?_, ?_⟩
          | fail)
        all_goals first
          | with_reducible rfl
          | (conv => whnf
             try left
             conv => lhs; whnf
             first
               | rfl
               | exact congrArg (AV.int .i64) (by omega)
               | skip)
    · refine ⟨(⟨a.letters, a.states, a.start, a.edges ++ [⟨a.states, 0, 0, false⟩]⟩, i', h'), ⟨by simp; omega, hi'⟩, [some 0, some 1, some 2, some 4], rfl, rfl, ?_, ?_⟩
      · refine And.intro (And.intro (.inl rfl) (And.intro (.inl rfl) (And.intro (.inl rfl) trivial))) (And.intro (And.intro (.inl rfl) (And.intro (.inl rfl) (And.intro (.inl rfl) (And.intro (.inl rfl) trivial)))) (And.intro (And.intro (.inl rfl) (And.intro (.inl rfl) (And.intro (.inl rfl) (And.intro ?_ trivial)))) (And.intro (And.intro rfl (app_edge a.edges _ _ _ _)) trivial)))
        show AV.ref 4 0 (a.edges.length + 1) = AV.ref 4 0 (a.edges ++ [(⟨a.states, 0, 0, false⟩ : EdgeD)]).length
        simp
      · repeat' (first
          | exact trivial
          | refine ⟨?_, ?_⟩
          | fail)
        all_goals first
          | with_reducible rfl
          | (conv => whnf
             try left
             conv => lhs; whnf
             first
               | rfl
               | exact congrArg (AV.int .i64) (by omega)
               | skip)
    · refine ⟨(a, i', h'), ⟨by dsimp only; omega, hi'⟩, [some 0, some 1, some 2, some 3], rfl, rfl, ?_, ?_⟩
      · exact And.intro (And.intro (.inl rfl) (And.intro (.inl rfl) (And.intro (.inl rfl) trivial))) (And.intro (And.intro (.inl rfl) (And.intro (.inl rfl) (And.intro (.inl rfl) (And.intro (.inl rfl) trivial)))) (And.intro (And.intro (.inl rfl) (And.intro (.inl rfl) (And.intro (.inl rfl) (And.intro rfl trivial)))) (And.intro (And.intro rfl rfl) trivial)))
      · repeat' (first
          | exact trivial
          | refine ⟨?_, ?_⟩
          | fail)
        all_goals first
          | with_reducible rfl
          | (conv => whnf
             try left
             conv => lhs; whnf
             first
               | rfl
               | exact congrArg (AV.int .i64) (by omega)
               | skip)
  clear ha hi1 a i1 h1'
  rintro ⟨a, i1, h1'⟩ ⟨ha, hi1⟩
  dsimp only at ha hi1 ⊢
  refine vc2_sound hR _ _ _ _ _ ?_
  conv => whnf
  repeat' ((first | (refine And.intro (fun hb => ?_) (fun hb => ?_) <;> ((try simp only [SB, reduceCtorEq] at hb); try (exfalso; omega))) | refine G2 ?_ | rw [ints_at (by omega)] | rw [ints_at0 (by omega)] | rw [ints_at' (by omega) (by omega)] | refine G1 ?_ | fail) <;> conv => whnf)
  refine ⟨.inl rfl, ?_⟩
  conv => whnf
  refine And.intro (Nat.le_of_ble_eq_true rfl) ?_
  conv => whnf
  exact ⟨[some 0, some 3], .agg (autoRef 1 a), [some (curO code i1 h1'), some (.arr 4 (edgeRows a.edges))],
    ⟨rfl, And.intro (And.intro (.inl rfl) (And.intro (.inl rfl) (And.intro (.inl rfl) trivial))) (And.intro (And.intro rfl rfl) trivial)⟩, And.intro (.inl rfl) (And.intro (.inl rfl) (And.intro (.inl rfl) (And.intro rfl trivial))), rfl, hq a i1 h1' ha hi1⟩
end Go.Proofs.Ythanhknkoikbfaa.Ct
namespace Go.Proofs.Ythanhknkoikbfaa.Ct
open Go Go.Proofs Go.Proofs.Ythanhknkoikbfaa.Av Go.Proofs.Ythanhknkoikbfaa.Pl
def c_impl_graph_finished : ICode := (.seq (.reg [Ol 2 .mv [.c .snil]]) (.seq (.reg [Ol 3 .mv [.c .snil]]) (.seq (.reg [O1 9 .mv 0, O1 10 .nck 9, O1 11 (.fadr 0) 10, O1 12 .ld1 11, O1 13 .len 12, O2 14 (.mks 1 1 [(.bool false)]) 13 13, O1 4 .mv 14]) (.seq (.seq (.reg [O1 15 .mv 0, O1 16 .nck 15, O1 17 (.fadr 0) 16, O1 18 .ld1 17, O1 19 .len 18, Ol 20 .mv [ci 0]]) (.block 0 (.loop (.seq (.reg [O2 21 (.bin .lss) 20 19]) (.seq (.cond (.t 21) .skip (.exit 0)) (.seq (.block 1 (.seq (.reg [O1 22 .mv 20, O1 5 .mv 22]) (.seq (.seq (.reg [O1 23 .mv 4, O1 24 .mv 5, O2 25 (.iadr 1) 23 24, O1 26 .ld1 25]) (.cond (.t 26) (.exit 1) .skip)) (.seq (.reg [O1 27 .mv 4, O1 28 .mv 5, O2 29 (.iadr 1) 27 28, Sl (.st 1) [.t 29, cb true]]) (.seq (.reg [O1 30 .mv 5, O1 31 (.bld [(.int .i64 0), (.int .i64 0)] [(0, 1)]) 30, O1 32 (.bsl 2) 31, O1 6 .mv 32]) (.block 2 (.loop (.seq (.seq (.reg [O1 33 .mv 6, O1 34 .len 33, Ol 35 (.bin .gtr) [.t 34, ci 0]]) (.cond (.t 35) .skip (.exit 2))) (.block 3 (.seq (.reg [O1 36 .mv 6, O1 37 .mv 6, O1 38 .len 37, Ol 39 (.bin .sub) [.t 38, ci 1], O2 40 (.iadr 2) 36 39, O1 7 .mv 40]) (.seq (.seq (.drw [O1 41 .mv 7, O1 42 .nck 41, O1 43 (.fadr 1) 42, O1 44 .ld1 43, O1 45 .mv 0, O1 46 .nck 45, O1 47 (.fadr 0) 46, O1 48 .ld1 47, O1 49 .mv 7, O1 50 .nck 49, O1 51 (.fadr 0) 50, O1 52 .ld1 51, O2 53 (.iadr 1) 48 52, O1 54 .ld1 53, O1 55 .len 54, O2 56 (.bin .eql) 44 55] (unB [0, 1, 3, 7, 0, 16, 48, 112, 0, 256, 768, 1792, 4080, 8176, 16368, 32767] 0) true true) (.cond (.t 56) (.seq (.reg [O1 57 .mv 3, O1 58 .mv 7, O1 59 .nck 58, O1 60 (.fadr 0) 59, O1 61 .ld1 60, O1 62 (.bslv 1) 61, O2 63 (.app 1 8) 57 62, O1 3 .mv 63]) (.seq (.reg [O1 64 .mv 6, O1 65 .mv 6, O1 66 .len 65, Ol 67 (.bin .sub) [.t 66, ci 1], O2 68 (.slc 2 false true) 64 67, O1 6 .mv 68]) (.exit 3))) .skip)) (.seq (.drw [O1 69 .mv 0, O1 70 .nck 69, O1 71 (.fadr 0) 70, O1 72 .ld1 71, O1 73 .mv 7, O1 74 .nck 73, O1 75 (.fadr 0) 74, O1 76 .ld1 75, O2 77 (.iadr 1) 72 76, O1 78 .ld1 77, O1 79 .mv 7, O1 80 .nck 79, O1 81 (.fadr 1) 80, O1 82 .ld1 81, O2 83 (.iadr 2) 78 82, O1 84 (.fadr 0) 83, O1 85 .ld1 84, O1 8 .mv 85] (unB [0, 1, 3, 7, 0, 16, 48, 112, 255, 511, 0, 1024, 3072, 7168, 16383, 32767, 65535, 131071] 0) true true) (.seq (.reg [O1 86 .mv 7, O1 87 .nck 86, O1 88 (.fadr 1) 87, O1 89 .ld1 88, Ol 90 (.bin .add) [.t 89, ci 1], O1 91 .nck 86, O1 92 (.fadr 1) 91, S2 (.st 1) 92 90]) (.seq (.reg [O1 93 .mv 4, O1 94 .mv 8, O2 95 (.iadr 1) 93 94, O1 96 .ld1 95, O1 97 .not 96]) (.cond (.t 97) (.seq (.reg [O1 98 .mv 4, O1 99 .mv 8, O2 100 (.iadr 1) 98 99, Sl (.st 1) [.t 100, cb true]]) (.reg [O1 101 .mv 6, O1 102 .mv 8, O1 103 (.bld [(.int .i64 0), (.int .i64 0)] [(0, 1)]) 102, O1 104 (.bslv 2) 103, O2 105 (.app 2 16) 101 104, O1 6 .mv 105])) .skip))))))))))))))) (.reg [Ol 106 (.bin .add) [.t 20, ci 1], O1 20 .mv 106]))))))) (.seq (.reg [O1 107 .mv 3, O1 2 .mv 107]) .ret)))))
theorem b_impl_graph_finished : Body Try.prog 176 108 c_impl_graph_finished [(.t 2)] := body_mk Try.func176 (by kernel_rfl) (by decide)
def nb (G : GraphD) (p : Nat) : List Nat := (G.getD p []).map (·.1)
theorem nb_adj {G : GraphD} {p r : Nat} : Nb (nb G) p r ↔ Adj G p r := by
  simp [Nb, nb, Adj]
theorem nb_eq (G : GraphD) : Nb (nb G) = Adj G := by
  funext p r; exact propext nb_adj
theorem nb_len (G : GraphD) (p : Nat) : (nb G p).length = (G.getD p []).length := by simp [nb]
theorem nb_at {G : GraphD} {p k : Nat} (h : k < (G.getD p []).length) : (nb G p).getD k 0 = ((G.getD p []).getD k default).1 := by
  have h2 : k < (nb G p).length := by rw [nb_len]; exact h
  rw [List.getD_eq_getElem?_getD, List.getD_eq_getElem?_getD (l := G.getD p []), List.getElem?_eq_getElem h, List.getElem?_eq_getElem h2]
  simp [nb]
def bools (l : List Bool) : List (List AV) := l.map fun b => [.bool b]
@[simp] theorem length_bools (l : List Bool) : (bools l).length = l.length := by simp [bools]
theorem bools_at0 {l : List Bool} {i : Nat} (h : i < l.length) : (bools l)[0 + ((i : Nat) : Int).toNat]? = some [.bool (l.getD i false)] := by
  rw [Nat.zero_add]
  simp [bools, List.getElem?_map, List.getElem?_eq_getElem h, List.getD_eq_getElem?_getD]
theorem bools_set {l : List Bool} {i : Nat} {v : Bool} : (bools l).set (0 + ((i : Nat) : Int).toNat) [.bool v] = bools (l.set i v) := by
  simp [bools, List.map_set]
def placeRow (p : Nat × Nat) : List AV := [.int .i64 ((p.1 : Nat) : Int), .int .i64 ((p.2 : Nat) : Int)]
def placeRows (l : List (Nat × Nat)) : List (List AV) := l.map placeRow
@[simp] theorem length_placeRows (l : List (Nat × Nat)) : (placeRows l).length = l.length := by simp [placeRows]
theorem top_ix {α : Type} {x : α} {l : List α} : 0 + ((((x :: l).length : Nat) : Int) - 1).toNat = l.length := by simp
theorem top_at {x k : Nat} {l J : List (Nat × Nat)} : (placeRows (((x, k) :: l).reverse ++ J))[0 + (((((x, k) :: l).length : Nat) : Int) - 1).toNat]? = some [.int .i64 ((x : Nat) : Int), .int .i64 ((k : Nat) : Int)] := by
  rw [top_ix]
  simp [placeRows, placeRow]
theorem top_set {x : Nat × Nat} {l J : List (Nat × Nat)} {y : Nat × Nat} : (placeRows ((x :: l).reverse ++ J)).set (0 + ((((x :: l).length : Nat) : Int) - 1).toNat) (placeRow y) = placeRows ((y :: l).reverse ++ J) := by
  rw [top_ix]
  simp [placeRows]
theorem top_set1 {x k : Nat} {l J : List (Nat × Nat)} : (placeRows (((x, k) :: l).reverse ++ J)).set (0 + (((((x, k) :: l).length : Nat) : Int) - 1).toNat) [.int .i64 ((x : Nat) : Int), .int .i64 (((k : Nat) : Int) + 1)] = placeRows (((x, k + 1) :: l).reverse ++ J) :=
  top_set (y := (x, k + 1))
theorem cut_top {α : Type} {x : α} {l : List α} {m : Nat} : AV.ref m (0 + (0 : Int).toNat) (((((x :: l).length : Nat) : Int) - 1) - 0).toNat = AV.ref m 0 l.length := by simp
theorem top_app {x y : Nat × Nat} {l J : List (Nat × Nat)} : List.take (x :: l).length (placeRows ((x :: l).reverse ++ J)) ++ [placeRow y] = placeRows ((y :: x :: l).reverse ++ []) := by
  have e : (x :: l).length = (placeRows (x :: l).reverse).length := by simp
  have e2 : placeRows ((x :: l).reverse ++ J) = placeRows (x :: l).reverse ++ placeRows J := by simp [placeRows]
  rw [e, e2, List.take_left]
  simp [placeRows]
def GFin : GFun := fun xs objs Q => ∃ (G : GraphD), xs = [.rptr [.val (gRows G)] 0] ∧ objs = [] ∧ GOk G ∧ G.length ≤ 100000 ∧ steps G ≤ 1000000000 ∧ ∀ ord, Order (nb G) G.length ord → Q (.ref 0 0 ord.length) [some (.arr 1 (ints (natsI ord)))]
theorem GFin_mk {G : GraphD} {Q : AV → List (Option AObj) → Prop} (h : GOk G) (h1 : G.length ≤ 100000) (h2 : steps G ≤ 1000000000) (hq : ∀ ord, Order (nb G) G.length ord → Q (.ref 0 0 ord.length) [some (.arr 1 (ints (natsI ord)))]) :
    GFin [.rptr [.val (gRows G)] 0] [] Q := ⟨G, rfl, rfl, h, h1, h2, hq⟩
set_option maxHeartbeats 8000000 in
theorem s_impl_finished : GenSound Try.prog 176 0 GFin := by
  have hR : Rely Try.prog (ctxOf []) := rely_nil mixed
  refine gen_of_aw b_impl_graph_finished ?_
  rintro xs objs Q - ⟨G, rfl, rfl, hG, hn, hst, hq⟩ -
  have hle := length_gRows G
  have hN : ∀ p, p < G.length → ∀ r ∈ nb G p, r < G.length := fun p _ r hr => (adj_lt hG (nb_adj.1 hr)).2
  refine ⟨by simp, vc2_sound hR _ _ _ _ _ ?_⟩
  conv => whnf
  repeat' ((first | contradiction | (refine And.intro (fun hb => ?_) (fun hb => ?_) <;> first | contradiction | ((try simp only [SB, reduceCtorEq] at hb); try (exfalso; first | contradiction | omega))) | refine G2 ?_ | rw [ints_at (by omega)] | rw [ints_at0 (by omega)] | rw [ints_at' (by omega) (by omega)] | refine G1 ?_ | rw [hle] | fail) <;> conv => whnf)
  refine Lp.intro (α := List Nat × List Bool × Nat) (fun a => Dfs (nb G) G.length a.1 a.2.1 [] ∧ a.2.2 ≤ G.length ∧ ∀ j, j < a.2.2 → a.2.1.getD j false = true) (fun a => G.length - a.2.2)
    (fun a => [(0, .rptr [.val (gRows G)] 0), (3, .ref 1 0 a.1.length), (4, .ref 0 0 G.length), (18, .val (gRows G)), (19, .int .i64 G.length), (20, .int .i64 a.2.2)]) (fun a => [some (.arr 1 (bools a.2.1)), some (.arr 1 (ints (natsI a.1)))]) ?_ ?_
  · refine ⟨([], List.replicate G.length false, 0), ⟨dfs_start _ _, Nat.zero_le _, fun j hj => absurd hj (Nat.not_lt_zero _)⟩, [some 0, none], rfl, rfl, And.intro (And.intro rfl ?_) (And.intro rfl trivial), ?_⟩
    · simp [bools]
    · exact ⟨.inl rfl, ⟨rfl, rfl, rfl⟩, rfl, .inl rfl, .inl rfl, .inl rfl, trivial⟩
  rintro ⟨ord, seen, i⟩ ⟨hD, hi, hall⟩
  dsimp only at hD hi hall ⊢
  have hsl := hD.len
  have hbl := length_bools seen
  refine vc2_sound hR _ _ _ _ _ ?_
  by_cases hlt : i < G.length
  · conv => whnf
    repeat' ((first | contradiction | (refine And.intro (fun hb => ?_) (fun hb => ?_) <;> first | contradiction | ((try simp only [SB, reduceCtorEq] at hb); try (exfalso; first | contradiction | omega))) | refine G2 ?_ | rw [ints_at (by omega)] | rw [ints_at0 (by omega)] | rw [ints_at' (by omega) (by omega)] | refine G1 ?_ | rw [bools_at0 (by omega)] | fail) <;> conv => whnf)
    · refine ⟨(ord, seen, i + 1), ⟨hD, hlt, fun j hj => ?_⟩, by dsimp only; omega, [some 0, some 1], rfl, rfl, And.intro (And.intro rfl rfl) (And.intro (And.intro rfl rfl) trivial), ?_⟩
      · by_cases hji : j = i
        · subst hji; exact hb
        · exact hall j (by dsimp only at hj; omega)
      · exact ⟨.inl rfl, rfl, rfl, .inl rfl, .inl rfl, .inl rfl, trivial⟩
    have hpush := hD.push hlt hb (by simp)
    have hset : ∀ j, (seen.set i true).getD j false = true ↔ i = j ∨ seen.getD j false = true := fun j => by
      rw [getD_setB]
      by_cases hij : i = j
      · rw [if_pos ⟨hij, by omega⟩]; simp [hij]
      · rw [if_neg (fun hh => hij hh.1)]; simp [hij]
    refine Lp.intro (α := List Nat × List Bool × List (Nat × Nat) × List (Nat × Nat)) (fun a => Dfs (nb G) G.length a.1 a.2.1 a.2.2.1 ∧ ∀ j, j < i + 1 → a.2.1.getD j false = true) (fun a => us (nb G) a.2.1 0 + ds (nb G) a.2.2.1)
      (fun a => [(0, .rptr [.val (gRows G)] 0), (3, .ref 1 0 a.1.length), (4, .ref 0 0 G.length), (6, .ref 2 0 a.2.2.1.length), (18, .val (gRows G)), (19, .int .i64 G.length), (20, .int .i64 i)]) (fun a => [some (.arr 1 (bools a.2.1)), some (.arr 1 (ints (natsI a.1))), some (.arr 2 (placeRows (a.2.2.1.reverse ++ a.2.2.2)))]) ?_ ?_
    · refine ⟨(ord, seen.set i true, [(i, 0)], []), ⟨hpush, fun j hj => (hset j).2 ?_⟩, [some 0, some 1, some 2], rfl, rfl, And.intro (And.intro rfl bools_set) (And.intro (And.intro rfl rfl) (And.intro (And.intro rfl rfl) trivial)), ?_⟩
      · by_cases hji : i = j
        · exact .inl hji
        · exact .inr (hall j (by omega))
      · exact ⟨.inl rfl, rfl, rfl, rfl, .inl rfl, .inl rfl, .inl rfl, trivial⟩
    clear hpush hset hb hD hall hsl hbl ord seen
    rintro ⟨ord, seen, st, J⟩ ⟨hD, hall⟩
    dsimp only at hD hall ⊢
    have hsl := hD.len
    have hbl := length_bools seen
    have hlen := hD.length_le
    have hol := (length_ints (natsI ord)).trans (length_natsI ord)
    refine vc2_sound hR _ _ _ _ _ ?_
    match st, hD, hlen with
    | [], hD, hlen =>
      conv => whnf
      repeat' ((first | contradiction | (refine And.intro (fun hb => ?_) (fun hb => ?_) <;> first | contradiction | ((try simp only [SB, reduceCtorEq] at hb); try (exfalso; first | contradiction | omega))) | refine G2 ?_ | rw [ints_at (by omega)] | rw [ints_at0 (by omega)] | rw [ints_at' (by omega) (by omega)] | refine G1 ?_ | fail) <;> conv => whnf)
      refine ⟨(ord, seen, i + 1), ⟨hD, hlt, hall⟩, by dsimp only; omega, [some 0, some 1], rfl, rfl, And.intro (And.intro rfl rfl) (And.intro (And.intro rfl rfl) trivial), ?_⟩
      exact ⟨.inl rfl, rfl, rfl, .inl rfl, .inl rfl, .inl rfl, trivial⟩
    | (x, k) :: rest, hD, hlen =>
      have hxn : x < G.length := hD.lt x (by simp)
      have hk := (hD.gone (x, k) (by simp)).1
      have hnl := nb_len G x
      rw [nb_len] at hk
      dsimp only at hk
      have hLb := steps_le hxn
      have hrl := length_stepRows (G.getD x [])
      have hpl : (placeRows (((x, k) :: rest).reverse ++ J)).length = rest.length + 1 + J.length := by simp; omega
      have hcl : ((x, k) :: rest).length = rest.length + 1 := rfl
      by_cases hkd : k = (G.getD x []).length
      · conv => whnf
        repeat' ((first | contradiction | (refine And.intro (fun hb => ?_) (fun hb => ?_) <;> first | contradiction | ((try simp only [SB, reduceCtorEq] at hb); try (exfalso; first | contradiction | omega))) | refine G2 ?_ | rw [ints_at (by omega)] | rw [ints_at0 (by omega)] | rw [ints_at' (by omega) (by omega)] | refine G1 ?_ | rw [top_at] | rw [gRows_at (by omega)] | fail) <;> conv => whnf)
        · refine ⟨(ord ++ [x], seen, rest, (x, k) :: J), ⟨hD.pop hN (by omega), hall⟩, by simp only [ds]; omega, [some 0, some 3, some 2], rfl, rfl, And.intro (And.intro rfl rfl) (And.intro (And.intro rfl (natsI_app rfl)) (And.intro (And.intro rfl ?_) trivial)), ?_⟩
          · simp
          · exact ⟨.inl rfl, congrArg (AV.ref 3 0) (by simp), rfl, cut_top, .inl rfl, .inl rfl, .inl rfl, trivial⟩
      · have hto : ((G.getD x []).getD k default).1 < G.length := hG x _ (getD_mem' (by omega))
        have hna := nb_at (G := G) (p := x) (k := k) (by omega)
        conv => whnf
        repeat' ((first | contradiction | (refine And.intro (fun hb => ?_) (fun hb => ?_) <;> first | contradiction | ((try simp only [SB, reduceCtorEq] at hb); try (exfalso; first | contradiction | omega))) | refine G2 ?_ | rw [ints_at (by omega)] | rw [ints_at0 (by omega)] | rw [ints_at' (by omega) (by omega)] | refine G1 ?_ | rw [top_at] | rw [gRows_at (by omega)] | rw [step_at (by omega)] | rw [bools_at0 (by omega)] | fail) <;> conv => whnf)
        · refine ⟨(ord, seen, (x, k + 1) :: rest, J), ⟨hD.pass (by omega) (by rw [hna]; exact hb), hall⟩, by simp only [ds]; omega, [some 0, some 1, some 2], rfl, rfl, And.intro (And.intro rfl rfl) (And.intro (And.intro rfl rfl) (And.intro (And.intro rfl top_set1) trivial)), ?_⟩
          exact ⟨.inl rfl, rfl, rfl, rfl, .inl rfl, .inl rfl, .inl rfl, trivial⟩
        · have hus := us_set (nb G) seen 0 _ (by omega) hb
          rw [Nat.zero_add, nb_len] at hus
          refine ⟨(ord, seen.set ((G.getD x []).getD k default).1 true, (((G.getD x []).getD k default).1, 0) :: (x, k + 1) :: rest, []), ⟨hD.down (by omega) hna hto hb, fun j hj => ?_⟩, ?_, [some 0, some 1, some 3], rfl, rfl, And.intro (And.intro rfl bools_set) (And.intro (And.intro rfl rfl) (And.intro (And.intro rfl ?_) trivial)), ?_⟩
          · rw [getD_setB]
            split
            · rfl
            · exact hall j hj
          · simp only [ds, nb_len]; omega
          · rw [top_set1]
            exact top_app (x := (x, k + 1)) (y := (((G.getD x []).getD k default).1, 0))
          · exact ⟨.inl rfl, rfl, rfl, congrArg (AV.ref 3 0) (by simp), .inl rfl, .inl rfl, .inl rfl, trivial⟩
  · conv => whnf
    repeat' ((first | contradiction | (refine And.intro (fun hb => ?_) (fun hb => ?_) <;> first | contradiction | ((try simp only [SB, reduceCtorEq] at hb); try (exfalso; first | contradiction | omega))) | refine G2 ?_ | rw [ints_at (by omega)] | rw [ints_at0 (by omega)] | rw [ints_at' (by omega) (by omega)] | refine G1 ?_ | fail) <;> conv => whnf)
    refine ⟨.inl rfl, ?_⟩
    conv => whnf
    refine ⟨[some 1], .ref 0 0 ord.length, [some (.arr 1 (ints (natsI ord)))], ⟨rfl, And.intro (And.intro rfl rfl) trivial⟩, rfl, rfl, hq ord (hD.order fun p hp => hall p (by omega))⟩
def c_slices_Reverse_int_int : ICode := (.seq (.reg [O1 4 .mv 0, O1 5 .len 4, Ol 6 (.bin .sub) [.t 5, ci 1], Ol 2 .mv [ci 0], O1 3 .mv 6]) (.block 0 (.loop (.seq (.seq (.reg [O1 7 .mv 2, O1 8 .mv 3, O2 9 (.bin .lss) 7 8]) (.cond (.t 9) .skip (.exit 0))) (.seq (.block 1 (.drw [O1 14 .mv 0, O1 15 .mv 2, O1 16 .mv 0, O1 17 .mv 3, O1 18 .mv 0, O1 19 .mv 3, O2 20 (.iadr 1) 18 19, O1 21 .ld1 20, O1 22 .mv 0, O1 23 .mv 2, O2 24 (.iadr 1) 22 23, O1 25 .ld1 24, O2 26 (.iadr 1) 14 15, S2 (.st 1) 26 21, O2 27 (.iadr 1) 16 17, S2 (.st 1) 27 25] (unB [0, 0, 0, 0, 0, 0, 48, 112, 0, 0, 768, 1792, 4083, 8179, 16383, 32767] 0) true true)) (.reg [O1 10 .mv 2, Ol 11 (.bin .add) [.t 10, ci 1], O1 12 .mv 3, Ol 13 (.bin .sub) [.t 12, ci 1], O1 2 .mv 11, O1 3 .mv 13]))))))
theorem b_slices_Reverse_int_int : Body Try.prog 178 28 c_slices_Reverse_int_int [] := body_mk Try.func178 (by kernel_rfl) (by decide)
def c_impl_graph_rings : ICode := (.seq (.reg [Ol 2 .mv [.c .snil]]) (.seq (.reg [O1 13 .mv 0, O1 14 (.call 176) 13, O1 3 .mv 14]) (.seq (.reg [O1 15 .mv 0, O1 16 (.call 177) 15, O1 4 .mv 16]) (.seq (.reg [O1 17 .mv 0, O1 18 .nck 17, O1 19 (.fadr 0) 18, O1 20 .ld1 19, O1 21 .len 20, O2 22 (.mks 1 8 [(.int .i64 0)]) 21 21, O1 5 .mv 22]) (.seq (.seq (.reg [O1 23 .mv 5, O1 24 .len 23, Ol 25 .mv [ci 0]]) (.block 0 (.loop (.seq (.reg [O2 26 (.bin .lss) 25 24]) (.seq (.cond (.t 26) .skip (.exit 0)) (.seq (.block 1 (.seq (.reg [O1 27 .mv 25, O1 6 .mv 27]) (.reg [O1 28 .mv 5, O1 29 .mv 6, O2 30 (.iadr 1) 28 29, Sl (.st 1) [.t 30, ci (-1)]]))) (.reg [Ol 31 (.bin .add) [.t 25, ci 1], O1 25 .mv 31]))))))) (.seq (.reg [O1 32 .mv 3, O1 33 (.call 178) 32]) (.seq (.seq (.reg [O1 34 .mv 3, O1 35 .len 34, Ol 36 .mv [ci 0]]) (.block 2 (.loop (.seq (.reg [O2 37 (.bin .lss) 36 35]) (.seq (.cond (.t 37) .skip (.exit 2)) (.seq (.block 3 (.seq (.reg [O1 38 .mv 36, O2 39 (.iadr 1) 34 36, O1 40 .ld1 39, O1 7 .mv 38, O1 8 .mv 40]) (.seq (.seq (.reg [O1 41 .mv 5, O1 42 .mv 8, O2 43 (.iadr 1) 41 42, O1 44 .ld1 43, Ol 45 (.bin .geq) [.t 44, ci 0]]) (.cond (.t 45) (.exit 3) .skip)) (.seq (.reg [O1 46 .mv 5, O1 47 .mv 8, O1 48 .mv 7, O2 49 (.iadr 1) 46 47, S2 (.st 1) 49 48]) (.seq (.reg [O1 50 .mv 8, O1 51 (.bsl 1) 50, O1 9 .mv 51]) (.block 4 (.loop (.seq (.seq (.reg [O1 52 .mv 9, O1 53 .len 52, Ol 54 (.bin .gtr) [.t 53, ci 0]]) (.cond (.t 54) .skip (.exit 4))) (.block 5 (.seq (.reg [O1 55 .mv 9, O1 56 .mv 9, O1 57 .len 56, Ol 58 (.bin .sub) [.t 57, ci 1], O2 59 (.iadr 1) 55 58, O1 60 .ld1 59, O1 10 .mv 60]) (.seq (.reg [O1 61 .mv 9, O1 62 .mv 9, O1 63 .len 62, Ol 64 (.bin .sub) [.t 63, ci 1], O2 65 (.slc 1 false true) 61 64, O1 9 .mv 65]) (.seq (.reg [O1 66 .mv 4, O1 67 .nck 66, O1 68 (.fadr 0) 67, O1 69 .ld1 68, O1 70 .mv 10, O2 71 (.iadr 1) 69 70, O1 72 .ld1 71, O1 73 .len 72, Ol 74 .mv [ci 0]]) (.block 6 (.loop (.seq (.reg [O2 75 (.bin .lss) 74 73]) (.seq (.cond (.t 75) .skip (.exit 6)) (.seq (.block 7 (.seq (.reg [O2 76 (.iadr 2) 72 74, O1 77 (.ldn 2) 76, O0 12 (.alc [(.int .i64 0), (.int .i64 0)]), S2 (.st 2) 12 77]) (.seq (.reg [O1 78 .mv 5, O1 79 (.fadr 0) 12, O1 80 .ld1 79, O2 81 (.iadr 1) 78 80, O1 82 .ld1 81, Ol 83 (.bin .lss) [.t 82, ci 0]]) (.cond (.t 83) (.seq (.reg [O1 84 .mv 5, O1 85 (.fadr 0) 12, O1 86 .ld1 85, O1 87 .mv 7, O2 88 (.iadr 1) 84 86, S2 (.st 1) 88 87]) (.reg [O1 89 .mv 9, O1 90 (.fadr 0) 12, O1 91 .ld1 90, O1 92 (.bslv 1) 91, O2 93 (.app 1 8) 89 92, O1 9 .mv 93])) .skip)))) (.reg [Ol 94 (.bin .add) [.t 74, ci 1], O1 74 .mv 94])))))))))))))))))) (.reg [Ol 95 (.bin .add) [.t 36, ci 1], O1 36 .mv 95]))))))) (.seq (.reg [O1 96 .mv 5, O1 2 .mv 96]) .ret))))))))
theorem b_impl_graph_rings : Body Try.prog 104 97 c_impl_graph_rings [(.t 2)] := body_mk Try.func104 (by kernel_rfl) (by decide)
def GReverse : GFun := fun xs objs Q => ∃ l n, xs = [.ref 0 0 n] ∧ objs = [.arr 1 (ints l)] ∧ l.length = n ∧ n ≤ 1000000 ∧ Q (.tup []) [some (.arr 1 (ints l.reverse))]
theorem GReverse_mk {l : List Int} {n : Nat} {Q : AV → List (Option AObj) → Prop} (h : l.length = n) (h1 : n ≤ 1000000) (hq : Q (.tup []) [some (.arr 1 (ints l.reverse))]) : GReverse [.ref 0 0 n] [.arr 1 (ints l)] Q := ⟨l, n, rfl, rfl, h, h1, hq⟩
theorem ints_setI {d : List Int} {i : Int} {v : Int} : (ints d).set (0 + i.toNat) [.int .i64 v] = ints (d.set i.toNat v) := by
  rw [Nat.zero_add]
  simp [ints, List.map_set]
theorem ints_atI {xs : List Int} {i : Int} (h0 : 0 ≤ i) (h : i < xs.length) : (ints xs)[0 + i.toNat]? = some [.int .i64 (xs.getD i.toNat 0)] := by
  rw [Nat.zero_add]
  exact ints_at' h0 h
set_option maxHeartbeats 4000000 in
theorem s_slices_Reverse : GenSound Try.prog 178 1 GReverse := by
  have hR : Rely Try.prog (ctxOf []) := rely_nil mixed
  refine gen_of_aw b_slices_Reverse_int_int ?_
  rintro xs objs Q - ⟨l, n, rfl, rfl, rfl, hn, hq⟩ -
  refine ⟨by simp, vc2_sound hR _ _ _ _ _ ?_⟩
  conv => whnf
  repeat' ((first | contradiction | (refine And.intro (fun hb => ?_) (fun hb => ?_) <;> first | contradiction | ((try simp only [SB, reduceCtorEq] at hb); try (exfalso; first | contradiction | omega))) | refine G2 ?_ | rw [ints_at (by omega)] | rw [ints_at0 (by omega)] | rw [ints_at' (by omega) (by omega)] | refine G1 ?_ | fail) <;> conv => whnf)
  refine Lp.intro (α := Nat) (fun i => 2 * i ≤ l.length + 1) (fun i => l.length + 2 - i) (fun i => [(0, .ref 0 0 l.length), (2, .int .i64 i), (3, .int .i64 ((l.length : Int) - 1 - i))]) (fun i => [some (.arr 1 (ints (revI l i)))]) ?_ ?_
  · refine ⟨0, by omega, [some 0], rfl, rfl, And.intro (And.intro rfl ?_) trivial, ?_⟩
    · rw [revI_zero]
    · repeat' (first
        | exact trivial
        | refine ⟨?_, ?_⟩
        | fail)
      all_goals first
        | with_reducible rfl
        | (conv => whnf
           try left
           conv => lhs; whnf
           first
             | rfl
             | exact congrArg (AV.int .i64) (by omega)
             | skip)
  · intro i hi
    have hrl := length_revI (l := l) (i := i)
    have hil := length_ints (revI l i)
    refine vc2_sound hR _ _ _ _ _ ?_
    by_cases hlt : 2 * i + 1 < l.length
    · conv => whnf
      repeat' ((first | contradiction | (refine And.intro (fun hb => ?_) (fun hb => ?_) <;> first | contradiction | ((try simp only [SB, reduceCtorEq] at hb); try (exfalso; first | contradiction | omega))) | refine G2 ?_ | rw [ints_at (by omega)] | rw [ints_at0 (by omega)] | rw [ints_at' (by omega) (by omega)] | refine G1 ?_ | (rw [ints_atI (by omega) (by (try simp only [List.length_set]); omega)]) | rw [ints_setI] | fail) <;> conv => whnf)
      refine ⟨i + 1, by omega, by omega, [some 0], rfl, rfl, And.intro (And.intro rfl ?_) trivial, ?_⟩
      · rw [← revI_step hlt rfl]
        have e : ((l.length : Int) - 1 - (i : Int)).toNat = l.length - 1 - i := by omega
        rw [e]
        rfl
      · exact ⟨rfl, .inl rfl, .inl (congrArg (AV.int .i64) (by omega)), trivial⟩
    · conv => whnf
      repeat' ((first | contradiction | (refine And.intro (fun hb => ?_) (fun hb => ?_) <;> first | contradiction | ((try simp only [SB, reduceCtorEq] at hb); try (exfalso; first | contradiction | omega))) | refine G2 ?_ | rw [ints_at (by omega)] | rw [ints_at0 (by omega)] | rw [ints_at' (by omega) (by omega)] | refine G1 ?_ | fail) <;> conv => whnf)
      refine ⟨.inr rfl, ?_⟩
      conv => whnf
      refine ⟨[some 0], .tup [], [some (.arr 1 (ints l.reverse))], ⟨rfl, And.intro (And.intro rfl ?_) trivial⟩, trivial, rfl, hq⟩
      rw [revI_end (by omega)]
/-! ### rings -/
def GRings : GFun := fun xs objs Q => ∃ (G : GraphD), xs = [.rptr [.val (gRows G)] 0] ∧ objs = [] ∧ GOk G ∧ G.length ≤ 100000 ∧ steps G ≤ 1000000000 ∧ ∀ out, IsRings (Adj G) G.length out → Q (.ref 0 0 G.length) [some (.arr 1 (ints out))]
theorem GRings_mk {G : GraphD} {Q : AV → List (Option AObj) → Prop} (h : GOk G) (h1 : G.length ≤ 100000) (h2 : steps G ≤ 1000000000) (hq : ∀ out, IsRings (Adj G) G.length out → Q (.ref 0 0 G.length) [some (.arr 1 (ints out))]) :
    GRings [.rptr [.val (gRows G)] 0] [] Q := ⟨G, rfl, rfl, h, h1, h2, hq⟩
theorem len_mkG (l : List Trip) (n : Nat) : ∀ k, k ≤ n → (allWays (mkG n l) k).length = (l.filter fun e => decide (e.1 < k)).length := by
  intro k
  induction k with
  | zero =>
    intro _
    have e : (l.filter fun e => decide (e.1 < 0)) = [] := List.filter_eq_nil_iff.2 (by simp)
    rw [e]; simp [allWays]
  | succ k ih =>
    intro hk
    rw [allWays_succ, List.length_append, ih (by omega), ways_len, mkG_at (by omega), List.length_map, ← List.countP_eq_length_filter, ← List.countP_eq_length_filter, ← List.countP_eq_length_filter]
    clear ih hk
    induction l with
    | nil => rfl
    | cons e r ihr =>
      simp only [List.countP_cons]
      by_cases h1 : e.1 < k
      · have h2 : ¬ e.1 = k := by omega
        have h3 : e.1 < k + 1 := by omega
        simp [h1, h2, h3]; omega
      · by_cases h2 : e.1 = k
        · have h3 : e.1 < k + 1 := by omega
          simp [h1, h2]; omega
        · have h3 : ¬ e.1 < k + 1 := by omega
          simp [h1, h2, h3]; omega
theorem steps_mkG {n : Nat} {l : List Trip} : steps (mkG n l) ≤ l.length := by
  unfold steps
  rw [length_mkG, len_mkG l n n (Nat.le_refl _)]
  exact List.length_filter_le _ _
theorem steps_back {G : GraphD} (h : GOk G) : steps (backG G) = steps G := by
  unfold steps
  have e : (backG G).length = G.length := length_mkG _ _
  rw [e]
  unfold backG
  rw [len_mkG _ _ _ (Nat.le_refl _), List.filter_eq_self.2]
  rintro ⟨x, t, m⟩ he
  simpa using h t _ (mem_allWays.1 he).2
theorem last_ix {α : Type} {x : α} {l : List α} : 0 + ((((l ++ [x]).length : Nat) : Int) - 1).toNat = l.length := by simp
theorem last_at {p : Nat} {l J : List Nat} : (ints (natsI ((l ++ [p]) ++ J)))[0 + ((((l ++ [p]).length : Nat) : Int) - 1).toNat]? = some [.int .i64 ((p : Nat) : Int)] := by
  rw [last_ix]
  simp [ints, natsI]
theorem cut_last {α : Type} {x : α} {l : List α} {m : Nat} : AV.ref m (0 + (0 : Int).toNat) (((((l ++ [x]).length : Nat) : Int) - 1) - 0).toNat = AV.ref m 0 l.length := by simp
theorem natsI_app2 {l J : List Nat} {p : Nat} : List.take l.length (ints (natsI (l ++ J))) ++ [[.int .i64 ((p : Nat) : Int)]] = ints (natsI ((l ++ [p]) ++ [])) := by
  have e : ints (natsI (l ++ J)) = ints (natsI l) ++ ints (natsI J) := by simp [ints, natsI]
  rw [e, List.take_append_of_le_length (by simp [ints]), List.take_of_length_le (by simp [ints])]
  simp [ints, natsI]
set_option maxHeartbeats 8000000 in
theorem s_impl_rings : GenSound Try.prog 104 0 GRings := by
  have hR : Rely Try.prog (ctxOf [(176, .gen 0 GFin), (177, .pure RBack), (178, .gen 1 GReverse)]) :=
    rely_cons b_impl_graph_finished.has s_impl_finished (rely_cons b_impl_graph_back.has s_impl_back (rely_cons b_slices_Reverse_int_int.has s_slices_Reverse (rely_nil mixed)))
  refine gen_of_aw b_impl_graph_rings ?_
  rintro xs objs Q - ⟨G, rfl, rfl, hG, hn, hst, hq⟩ -
  have hle := length_gRows G
  have hbk := gok_back hG
  have hN : ∀ p, p < G.length → ∀ r ∈ nb G p, r < G.length := fun p _ r hr => (adj_lt hG (nb_adj.1 hr)).2
  have hbl : (backG G).length = G.length := length_mkG _ _
  have hst2 := steps_back hG
  refine ⟨by simp, vc2_sound hR _ _ _ _ _ ?_⟩
  conv => whnf
  repeat' ((first | contradiction | (refine And.intro (fun hb => ?_) (fun hb => ?_) <;> first | contradiction | ((try simp only [SB, reduceCtorEq] at hb); try (exfalso; first | contradiction | omega))) | refine G2 ?_ | rw [ints_at (by omega)] | rw [ints_at0 (by omega)] | rw [ints_at' (by omega) (by omega)] | refine G1 ?_ | rw [hle] | refine ⟨GFin_mk hG hn hst (fun ord hord => ?_)⟩ | refine ⟨_, _, RBack_eq rfl hG hn hst, ?_⟩ | fail) <;> conv => whnf)
  have hol := hord.length
  refine Lp.intro (α := Nat) (fun i => i ≤ G.length) (fun i => G.length - i) (fun i => [(3, .ref 1 0 ord.length), (4, .rptr [.val (gRows (backG G))] 0), (5, .ref 0 0 G.length), (24, .int .i64 G.length), (25, .int .i64 i)]) (fun i => [some (.arr 1 (ints (List.replicate i (-1) ++ List.replicate (G.length - i) 0))), some (.arr 1 (ints (natsI ord)))]) ?_ ?_
  · refine ⟨0, by omega, [some 3, some 0], rfl, rfl, And.intro (And.intro rfl ?_) (And.intro (And.intro rfl rfl) trivial), ?_⟩
    · simp [ints]
    · exact ⟨rfl, .inr (snap_graph rfl rfl hbl.symm), rfl, .inl rfl, .inl rfl, trivial⟩
  intro i hi
  refine vc2_sound hR _ _ _ _ _ ?_
  by_cases hlt : i < G.length
  · conv => whnf
    repeat' ((first | contradiction | (refine And.intro (fun hb => ?_) (fun hb => ?_) <;> first | contradiction | ((try simp only [SB, reduceCtorEq] at hb); try (exfalso; first | contradiction | omega))) | refine G2 ?_ | rw [ints_at (by omega)] | rw [ints_at0 (by omega)] | rw [ints_at' (by omega) (by omega)] | refine G1 ?_ | rw [neg_at hlt] | fail) <;> conv => whnf)
    refine ⟨i + 1, by omega, by omega, [some 0, some 1], rfl, rfl, And.intro (And.intro rfl (neg_set hlt)) (And.intro (And.intro rfl rfl) trivial), ?_⟩
    repeat' (first
      | exact trivial
      | refine ⟨?_, ?_⟩
      | fail)
    all_goals first
      | with_reducible rfl
      | (conv => whnf
         try left
         conv => lhs; whnf
         first
           | rfl
           | exact congrArg (AV.int .i64) (by omega)
           | skip)
  obtain rfl : i = G.length := by omega
  have hnl := length_natsI ord
  have hrev : (natsI ord).reverse = natsI ord.reverse := by simp [natsI]
  have hrl : ord.reverse.length = ord.length := by simp
  conv => whnf
  repeat' ((first | contradiction | (refine And.intro (fun hb => ?_) (fun hb => ?_) <;> first | contradiction | ((try simp only [SB, reduceCtorEq] at hb); try (exfalso; first | contradiction | omega))) | refine G2 ?_ | rw [ints_at (by omega)] | rw [ints_at0 (by omega)] | rw [ints_at' (by omega) (by omega)] | refine G1 ?_ | refine ⟨GReverse_mk hnl (by omega) ?_⟩ | rw [hrev] | fail) <;> conv => whnf)
  clear hi hlt hb
  refine Lp.intro (α := List Int × Nat) (fun a => Rings (Nb (nb G)) G.length ord.reverse a.2 a.1 ∧ a.2 ≤ ord.length) (fun a => ord.length - a.2)
    (fun a => [(4, .rptr [.val (gRows (backG G))] 0), (5, .ref 0 0 G.length), (34, .ref 1 0 ord.length), (35, .int .i64 ord.length), (36, .int .i64 a.2)]) (fun a => [some (.arr 1 (ints a.1)), some (.arr 1 (ints (natsI ord.reverse)))]) ?_ ?_
  · refine ⟨(List.replicate G.length (-1), 0), ⟨rings_start _ _ _, Nat.zero_le _⟩, [some 0, some 1], rfl, rfl, And.intro (And.intro rfl ?_) (And.intro (And.intro rfl rfl) trivial), ?_⟩
    · simp
    · exact ⟨.inl rfl, rfl, rfl, .inl rfl, .inl rfl, trivial⟩
  rintro ⟨out, k⟩ ⟨hT, hk⟩
  dsimp only at hT hk ⊢
  have hotl := hT.len
  have hil := length_ints out
  refine vc2_sound hR _ _ _ _ _ ?_
  by_cases hlt : k < ord.length
  · have hroot : ord.reverse.getD k 0 < G.length := by
      refine hord.lt _ ?_
      rw [List.getD_eq_getElem?_getD, List.getElem?_eq_getElem (by omega)]
      exact List.mem_reverse.1 (List.getElem_mem _)
    have h0k : ∀ q, q < G.length → out.getD q 0 < (k : Int) := fun p hp => by
      rcases hT.told p hp with h1 | ⟨j, h1, _, h2, _⟩ <;> omega
    generalize hrt : ord.reverse.getD k 0 = root at hroot
    conv => whnf
    repeat' ((first | contradiction | (refine And.intro (fun hb => ?_) (fun hb => ?_) <;> first | contradiction | ((try simp only [SB, reduceCtorEq] at hb); try (exfalso; first | contradiction | omega))) | refine G2 ?_ | rw [ints_at (by omega)] | rw [ints_at0 (by omega)] | rw [ints_at' (by omega) (by omega)] | refine G1 ?_ | rw [natsI_at0 (by omega)] | rw [hrt] | rw [ints_at0 (by omega)] | fail) <;> conv => whnf)
    · rw [hrt] at hb
      refine ⟨(out, k + 1), ⟨hT.skip (fun _ => by rw [hrt]; exact hb), hlt⟩, by dsimp only; omega, [some 0, some 1], rfl, rfl, And.intro (And.intro rfl rfl) (And.intro (And.intro rfl rfl) trivial), ?_⟩
      exact ⟨.inl rfl, rfl, rfl, .inl rfl, .inl rfl, trivial⟩
    rw [hrt] at hb
    have hb0 := hb
    have hS := ring_start (A := Nb (nb G)) (k := k) hotl hroot hb
    have hls := left_set (v := (k : Int)) (by omega : root < out.length) hb (by omega)
    have hlo : left out ≤ out.length := List.countP_le_length
    refine Lp.intro (α := List Int × List Nat × List Nat) (fun a => Ring (Nb (nb G)) G.length k root out a.1 a.2.1 none (fun _ => False) ∧ 2 * left a.1 + a.2.1.length ≤ 2 * G.length) (fun a => 2 * left a.1 + a.2.1.length)
      (fun a => [(4, .rptr [.val (gRows (backG G))] 0), (5, .ref 0 0 G.length), (7, .int .i64 k), (9, .ref 2 0 a.2.1.length), (34, .ref 1 0 ord.length), (35, .int .i64 ord.length), (36, .int .i64 k)]) (fun a => [some (.arr 1 (ints a.1)), some (.arr 1 (ints (natsI ord.reverse))), some (.arr 1 (ints (natsI (a.2.1 ++ a.2.2))))]) ?_ ?_
    · refine ⟨(out.set root k, [root], []), ⟨hS, by simp only [List.length_singleton]; omega⟩, [some 0, some 1, some 2], rfl, rfl, And.intro (And.intro rfl ints_set) (And.intro (And.intro rfl rfl) (And.intro (And.intro rfl rfl) trivial)), ?_⟩
      exact ⟨.inl rfl, rfl, .inl rfl, rfl, rfl, .inl rfl, .inl rfl, trivial⟩
    clear hS hls hlo
    rintro ⟨out', st, J⟩ ⟨hC, hM⟩
    dsimp only at hC hM ⊢
    have hsp : st = [] ∨ ∃ l p, st = l ++ [p] := by
      rcases List.eq_nil_or_concat st with h | ⟨l, p, h⟩
      · exact .inl h
      · exact .inr ⟨l, p, by rw [h, List.concat_eq_append]⟩
    have hotl' := hC.len
    have hil' := length_ints out'
    refine vc2_sound hR _ _ _ _ _ ?_
    rcases hsp with rfl | ⟨l, p, rfl⟩
    · conv => whnf
      repeat' ((first | contradiction | (refine And.intro (fun hb => ?_) (fun hb => ?_) <;> first | contradiction | ((try simp only [SB, reduceCtorEq] at hb); try (exfalso; first | contradiction | omega))) | refine G2 ?_ | rw [ints_at (by omega)] | rw [ints_at0 (by omega)] | rw [ints_at' (by omega) (by omega)] | refine G1 ?_ | fail) <;> conv => whnf)
      refine ⟨(out', k + 1), ⟨hC.fin rfl hN hord hlt hrt.symm hT hb0, hlt⟩, by dsimp only; omega, [some 0, some 1], rfl, rfl, And.intro (And.intro rfl rfl) (And.intro (And.intro rfl rfl) trivial), ?_⟩
      exact ⟨.inl rfl, rfl, rfl, .inl rfl, .inl rfl, trivial⟩
    have hD := hC.take h0k
    have hp := (hC.wait p (by simp)).1
    have hLb := steps_le (G := backG G) (i := p) (by omega)
    have hsl := length_stepRows ((backG G).getD p [])
    have hll : (l ++ [p]).length = l.length + 1 := by simp
    have hjl : (ints (natsI (l ++ [p] ++ J))).length = l.length + 1 + J.length := by rw [length_ints, length_natsI]; simp; omega
    conv => whnf
    repeat' ((first | contradiction | (refine And.intro (fun hb => ?_) (fun hb => ?_) <;> first | contradiction | ((try simp only [SB, reduceCtorEq] at hb); try (exfalso; first | contradiction | omega))) | refine G2 ?_ | rw [ints_at (by omega)] | rw [ints_at0 (by omega)] | rw [ints_at' (by omega) (by omega)] | refine G1 ?_ | rw [last_at] | rw [gRows_at (by omega)] | fail) <;> conv => whnf)
    generalize hL : (backG G).getD p [] = L at hLb hsl
    refine Lp.intro (α := List Int × List Nat × List Nat × Nat) (fun a => Ring (Nb (nb G)) G.length k root out a.1 a.2.1 (some p) (fun r => ∃ j, j < a.2.2.2 ∧ (L.getD j default).1 = r) ∧ a.2.2.2 ≤ L.length ∧ 2 * left a.1 + a.2.1.length ≤ 2 * left out' + l.length) (fun a => L.length - a.2.2.2)
      (fun a => [(4, .rptr [.val (gRows (backG G))] 0), (5, .ref 0 0 G.length), (7, .int .i64 k), (9, .ref 2 0 a.2.1.length), (34, .ref 1 0 ord.length), (35, .int .i64 ord.length), (36, .int .i64 k), (72, .val (stepRows L)), (73, .int .i64 L.length), (74, .int .i64 a.2.2.2)]) (fun a => [some (.arr 1 (ints a.1)), some (.arr 1 (ints (natsI ord.reverse))), some (.arr 1 (ints (natsI (a.2.1 ++ a.2.2.1))))]) ?_ ?_
    · refine ⟨(out', l, p :: J, 0), ⟨hD.see (fun q hq r _ _ hr => by obtain ⟨j, hj, _⟩ := hr; dsimp only at hj; omega), Nat.zero_le _, Nat.le_refl _⟩, [some 0, some 1, some 2], rfl, rfl, And.intro (And.intro rfl rfl) (And.intro (And.intro rfl rfl) (And.intro (And.intro rfl ?_) trivial)), ?_⟩
      · simp
      · subst hL
        exact ⟨.inl rfl, rfl, .inl rfl, cut_last, rfl, .inl rfl, .inl rfl, .inl rfl, .inl (congrArg (fun x : Nat => AV.int .i64 x) hsl), .inl rfl, trivial⟩
    clear hD hC hotl' hil' hjl
    rintro ⟨out2, st2, J2, j⟩ ⟨hE, hj, hm⟩
    dsimp only at hE hj hm ⊢
    have hotl' := hE.len
    have hil' := length_ints out2
    refine vc2_sound hR _ _ _ _ _ ?_
    by_cases hjl : j < L.length
    · have hmem : L.getD j default ∈ (backG G).getD p [] := by rw [hL]; exact getD_mem' hjl
      have hs : (L.getD j default).1 < G.length := by
        have := hbk p _ hmem
        omega
      have hadj : Nb (nb G) (L.getD j default).1 p := nb_adj.2 ((adj_back hG).1 ⟨(L.getD j default).2, hmem⟩)
      have hsee : ∀ {o : List Int}, 0 ≤ o.getD (L.getD j default).1 0 → ∀ q, some p = some q → ∀ r, r < G.length → Nb (nb G) r q → (∃ j', j' < j + 1 ∧ (L.getD j' default).1 = r) → (∃ j', j' < j ∧ (L.getD j' default).1 = r) ∨ 0 ≤ o.getD r 0 := by
        rintro o ho q _ r _ _ ⟨j', hj', rfl⟩
        by_cases hjj : j' = j
        · subst hjj; exact .inr ho
        · exact .inl ⟨j', by omega, rfl⟩
      have hj2 : st2.length ≤ (ints (natsI (st2 ++ J2))).length := by rw [length_ints, length_natsI]; simp
      have hst2l : st2.length ≤ 200000 := by omega
      conv => whnf
      repeat' ((first | contradiction | (refine And.intro (fun hb => ?_) (fun hb => ?_) <;> first | contradiction | ((try simp only [SB, reduceCtorEq] at hb); try (exfalso; first | contradiction | omega))) | refine G2 ?_ | rw [ints_at (by omega)] | rw [ints_at0 (by omega)] | rw [ints_at' (by omega) (by omega)] | refine G1 ?_ | rw [step_at (by omega)] | rw [ints_at0 (by omega)] | fail) <;> conv => whnf)
      · have hpush := hE.push hs hadj hb
        have hls := left_set (v := (k : Int)) (by omega : (L.getD j default).1 < out2.length) hb (by omega)
        refine ⟨(out2.set (L.getD j default).1 k, st2 ++ [(L.getD j default).1], [], j + 1), ⟨hpush.see (hsee (by rw [Pl.getD_set, if_pos ⟨rfl, by omega⟩]; omega)), hjl, by simp only [List.length_append, List.length_singleton]; omega⟩, by dsimp only; omega, [some 0, some 1, some 4], rfl, rfl, And.intro (And.intro rfl ints_set) (And.intro (And.intro rfl rfl) (And.intro (And.intro rfl natsI_app2) trivial)), ?_⟩
        exact ⟨.inl rfl, rfl, .inl rfl, congrArg (AV.ref 4 0) (by simp), rfl, .inl rfl, .inl rfl, .inl rfl, .inl rfl, .inl rfl, trivial⟩
      · refine ⟨(out2, st2, J2, j + 1), ⟨hE.see (hsee (by omega)), hjl, hm⟩, by dsimp only; omega, [some 0, some 1, some 2], rfl, rfl, And.intro (And.intro rfl rfl) (And.intro (And.intro rfl rfl) (And.intro (And.intro rfl rfl) trivial)), ?_⟩
        exact ⟨.inl rfl, rfl, .inl rfl, rfl, rfl, .inl rfl, .inl rfl, .inl rfl, .inl rfl, .inl rfl, trivial⟩
    · conv => whnf
      repeat' ((first | contradiction | (refine And.intro (fun hb => ?_) (fun hb => ?_) <;> first | contradiction | ((try simp only [SB, reduceCtorEq] at hb); try (exfalso; first | contradiction | omega))) | refine G2 ?_ | rw [ints_at (by omega)] | rw [ints_at0 (by omega)] | rw [ints_at' (by omega) (by omega)] | refine G1 ?_ | fail) <;> conv => whnf)
      refine ⟨(out2, st2, J2), ⟨hE.done (fun q hq r hr ha => ?_), by dsimp only; omega⟩, by dsimp only; omega, [some 0, some 1, some 2], rfl, rfl, And.intro (And.intro rfl rfl) (And.intro (And.intro rfl rfl) (And.intro (And.intro rfl rfl) trivial)), ?_⟩
      · cases hq
        obtain ⟨m, hm⟩ := (adj_back hG).2 (nb_adj.1 ha)
        rw [hL] at hm
        obtain ⟨j', hj', he⟩ := List.getElem_of_mem hm
        refine ⟨j', by omega, ?_⟩
        rw [List.getD_eq_getElem?_getD, List.getElem?_eq_getElem hj']
        simp [he]
      · exact ⟨.inl rfl, rfl, .inl rfl, rfl, rfl, .inl rfl, .inl rfl, trivial⟩
  · conv => whnf
    repeat' ((first | contradiction | (refine And.intro (fun hb => ?_) (fun hb => ?_) <;> first | contradiction | ((try simp only [SB, reduceCtorEq] at hb); try (exfalso; first | contradiction | omega))) | refine G2 ?_ | rw [ints_at (by omega)] | rw [ints_at0 (by omega)] | rw [ints_at' (by omega) (by omega)] | refine G1 ?_ | fail) <;> conv => whnf)
    refine ⟨.inl rfl, ?_⟩
    conv => whnf
    have hf := hT.fin hord (by omega)
    rw [nb_eq] at hf
    exact ⟨[some 0], .ref 0 0 G.length, [some (.arr 1 (ints out))], ⟨rfl, And.intro (And.intro rfl rfl) trivial⟩, rfl, rfl, hq out hf⟩
def c_impl_isIn : ICode := (.seq (.reg [Ol 4 .mv [cb false]]) (.seq (.reg [O1 5 .mv 0, O1 6 .mv 1, O2 7 (.bin .andNot) 5 6, Ol 8 (.bin .eql) [.t 7, ci 0], O1 4 .mv 8]) .ret))
theorem b_impl_isIn : Body Try.prog 181 9 c_impl_isIn [(.t 4)] := body_mk Try.func181 (by kernel_rfl) (by decide)
def c_impl_graph_lives : ICode := (.seq (.reg [Ol 6 .mv [cb false]]) (.seq (.reg [O1 16 .mv 0, O1 17 .mv 1, O2 18 (.call 103) 16 17, O1 19 .mv 0, O1 20 (.call 104) 19, O1 7 .mv 18, O1 8 .mv 20]) (.seq (.reg [O0 21 (.mkm false), O1 9 .mv 21]) (.seq (.reg [O0 22 (.mkm false), O1 10 .mv 22]) (.seq (.seq (.reg [O1 23 .mv 0, O1 24 .nck 23, O1 25 (.fadr 0) 24, O1 26 .ld1 25, O1 27 .len 26, Ol 28 .mv [ci 0]]) (.block 0 (.loop (.seq (.reg [O2 29 (.bin .lss) 28 27]) (.seq (.cond (.t 29) .skip (.exit 0)) (.seq (.block 1 (.seq (.reg [O1 30 .mv 28, O2 31 (.iadr 1) 26 28, O1 32 .ld1 31, O1 11 .mv 30, O1 12 .mv 32]) (.seq (.reg [O1 33 .mv 12, O1 34 .len 33, Ol 35 .mv [ci 0]]) (.block 2 (.loop (.seq (.reg [O2 36 (.bin .lss) 35 34]) (.seq (.cond (.t 36) .skip (.exit 2)) (.seq (.block 3 (.seq (.reg [O2 37 (.iadr 2) 33 35, O1 38 (.ldn 2) 37, O0 14 (.alc [(.int .i64 0), (.int .i64 0)]), S2 (.st 2) 14 38]) (.seq (.drw [O1 39 .mv 7, O1 40 .mv 11, O2 41 (.iadr 1) 39 40, O1 42 .ld1 41, Ol 43 (.bin .geq) [.t 42, ci 0], O1 44 .mv 43, Og 45 .mv [.t 8] 44 true, Og 46 .mv [.t 11] 44 true, Og 47 (.iadr 1) [.t 45, .t 46] 44 true, Og 48 .ld1 [.t 47] 44 true, Og 49 .mv [.t 8] 44 true, Og 50 (.fadr 0) [.t 14] 44 true, Og 51 .ld1 [.t 50] 44 true, Og 52 (.iadr 1) [.t 49, .t 51] 44 true, Og 53 .ld1 [.t 52] 44 true, Og 54 (.bin .eql) [.t 48, .t 53] 44 true, Ol 55 .pick [.t 44, .t 54, cb false]] (unB [0, 0, 3, 7, 15, 31, 63, 63, 255, 511, 63, 63, 2111, 7231, 15423, 32767, 65535] 0) true true) (.cond (.t 55) (.seq (.drw [O1 56 .mv 9, O1 57 .mv 8, O1 58 .mv 11, O2 59 (.iadr 1) 57 58, O1 60 .ld1 59, O2 61 (.mlk false) 56 60, O1 62 (.fadr 1) 14, O1 63 .ld1 62, O2 64 (.bin .or) 61 63, Sl (.mup false) [.t 56, .t 60, .t 64]] (unB [0, 0, 0, 6, 14, 31, 0, 64, 255, 511] 0) true true) (.reg [O1 65 .mv 10, O1 66 .mv 8, O1 67 .mv 11, O2 68 (.iadr 1) 66 67, O1 69 .ld1 68, Sl (.mup false) [.t 65, .t 69, ci 1]])) .skip)))) (.reg [Ol 70 (.bin .add) [.t 35, ci 1], O1 35 .mv 70]))))))))) (.reg [Ol 71 (.bin .add) [.t 28, ci 1], O1 28 .mv 71]))))))) (.seq (.seq (.reg [O1 72 .mv 10, O1 73 (.rng false) 72]) (.block 4 (.loop (.seq (.reg [O1 74 .nxt 73, O1 75 (.ext 0) 74]) (.seq (.cond (.t 75) .skip (.exit 4)) (.block 5 (.seq (.reg [O1 76 .ent 73, O1 77 (.ext 0) 76, O1 15 .mv 77]) (.seq (.reg [O1 78 .mv 2, O1 79 .mv 9, O1 80 .mv 15, O2 81 (.mlk false) 79 80, O2 82 (.call 181) 78 81]) (.cond (.t 82) (.seq (.reg [Ol 6 .mv [cb true]]) .ret) .skip))))))))) (.seq (.reg [Ol 6 .mv [cb false]]) .ret)))))))
theorem b_impl_graph_lives : Body Try.prog 118 83 c_impl_graph_lives [(.t 6)] := body_mk Try.func118 (by kernel_rfl) (by decide)
/-! ### maps, plainly -/
theorem mget_set {es : List MEnt} {k k' : List Sc} {v : Int} : mget (mset es k v) k' = if k' = k then v else mget es k' := by
  unfold mset
  cases hh : mhas es k with
  | true =>
    rw [if_pos rfl]
    unfold mget
    have hm : mhas es k = true := hh
    unfold mhas at hm
    clear hh
    induction es with
    | nil => simp at hm
    | cons e r ih =>
      rw [List.map_cons, List.find?_cons, List.find?_cons]
      by_cases hek : e.1 = k
      · rw [if_pos hek]
        by_cases hk : k' = k
        · subst hk; simp
        · have h2 : ¬ e.1 = k' := fun h => hk (h.symm.trans hek)
          have h3 : ¬ k = k' := fun h => hk h.symm
          simp only [h2, h3, decide_false, hk, if_false]
          cases hr : r.any fun e => decide (e.1 = k) with
          | true => have := ih hr; simpa [hk] using this
          | false =>
            have hno : ∀ x ∈ r, ¬ x.1 = k := fun x hx => by have := (List.any_eq_false.1 hr) x hx; simpa using this
            have e1 : (r.map fun e => if e.1 = k then (k, v) else e) = r := by
              conv => rhs; rw [← List.map_id r]
              refine List.map_congr_left fun x hx => ?_
              rw [if_neg (hno x hx)]; rfl
            rw [e1]
      · rw [if_neg hek]
        have hr : (r.any fun e => decide (e.1 = k)) = true := by simpa [hek] using hm
        by_cases h2 : e.1 = k'
        · have h3 : ¬ k' = k := fun h => hek (h2.trans h)
          simp [h2, h3]
        · simp only [h2, decide_false]
          exact ih hr
  | false =>
    rw [if_neg (by simp)]
    unfold mhas at hh
    rw [List.any_eq_false] at hh
    unfold mget
    rw [List.find?_append]
    by_cases hk : k' = k
    · subst hk
      rw [List.find?_eq_none.2 (fun x hx => by simpa using hh x hx)]
      simp
    · have h3 : ¬ k = k' := fun h => hk h.symm
      simp only [hk, if_false, List.find?_cons, h3, decide_false, List.find?_nil, Option.or_none]
theorem mhas_set {es : List MEnt} {k k' : List Sc} {v : Int} : mhas (mset es k v) k' = true ↔ k' = k ∨ mhas es k' = true := by
  unfold mset
  cases hh : mhas es k with
  | true =>
    rw [if_pos rfl]
    unfold mhas at hh ⊢
    simp only [List.any_map, List.any_eq_true, Function.comp, decide_eq_true_eq] at hh ⊢
    constructor
    · rintro ⟨e, he, h⟩
      split at h
      · exact .inl h.symm
      · exact .inr ⟨e, he, h⟩
    · rintro (rfl | ⟨e, he, h⟩)
      · obtain ⟨e, he, h⟩ := hh
        exact ⟨e, he, by rw [if_pos h]⟩
      · refine ⟨e, he, ?_⟩
        split
        · rename_i h2; rw [← h2, h]
        · exact h
  | false =>
    rw [if_neg (by simp)]
    unfold mhas
    simp only [List.any_append, List.any_cons, List.any_nil, Bool.or_false, Bool.or_eq_true, decide_eq_true_eq]
    constructor
    · rintro (h | h)
      · exact .inr h
      · exact .inl h.symm
    · rintro (h | h)
      · exact .inr h.symm
      · exact .inl h
/-! ### sets in sets -/
theorem sub_iff {X Y : Nat} : ((X &&& Y) == X) = true ↔ ∀ b, X.testBit b = true → Y.testBit b = true := by
  rw [beq_iff_eq]
  constructor
  · intro h b hb
    rw [← h, Nat.testBit_and, Bool.and_eq_true] at hb
    exact hb.2
  · intro h
    refine bits_ext fun b => ?_
    rw [Nat.testBit_and, Bool.and_eq_true]
    exact ⟨fun h => h.1, fun hb => ⟨hb, h b hb⟩⟩
theorem andNot_bits {X Y i : Nat} (hX : X < 2 ^ 62) (hY : Y < 2 ^ 62) : (BitVec.ofInt IntKind.i64.bits ((X : Nat) : Int) &&& ~~~BitVec.ofInt IntKind.i64.bits ((Y : Nat) : Int)).toNat.testBit i = true ↔ X.testBit i = true ∧ ¬ Y.testBit i = true := by
  have hb : IntKind.i64.bits = 64 := rfl
  rw [hb, BitVec.toNat_and, BitVec.toNat_not, toNat_ofInt64 (by omega) (by omega), toNat_ofInt64 (by omega) (by omega), Int.toNat_natCast, Int.toNat_natCast, Nat.testBit_and, Bool.and_eq_true,
    show 2 ^ 64 - 1 - Y = 2 ^ 64 - (Y + 1) by omega, Nat.testBit_two_pow_sub_succ (by omega), Bool.and_eq_true]
  constructor
  · rintro ⟨h1, _, h2⟩; exact ⟨h1, by simpa using h2⟩
  · rintro ⟨h1, h2⟩; exact ⟨h1, by simpa using bit_lt (show X < 2 ^ 64 by omega) h1, by simpa using h2⟩
theorem andNot_zero {X Y : Nat} (hX : X < 2 ^ 62) (hY : Y < 2 ^ 62) : IntKind.i64.wrap (BitVec.ofInt IntKind.i64.bits ((X : Nat) : Int) &&& ~~~BitVec.ofInt IntKind.i64.bits ((Y : Nat) : Int)).toNat = 0 ↔ ((X &&& Y) == X) = true := by
  have hle : (BitVec.ofInt IntKind.i64.bits ((X : Nat) : Int) &&& ~~~BitVec.ofInt IntKind.i64.bits ((Y : Nat) : Int)).toNat ≤ X := sub_le fun i h => ((andNot_bits hX hY).1 h).1
  rw [IntWalk.i64_in _ (by omega), sub_iff]
  constructor
  · intro h b hb
    refine Classical.byContradiction fun hn => ?_
    have := (andNot_bits (X := X) (Y := Y) hX hY).2 ⟨hb, hn⟩
    rw [show (BitVec.ofInt IntKind.i64.bits ((X : Nat) : Int) &&& ~~~BitVec.ofInt IntKind.i64.bits ((Y : Nat) : Int)).toNat = 0 by omega, Nat.zero_testBit] at this
    cases this
  · intro h
    have : (BitVec.ofInt IntKind.i64.bits ((X : Nat) : Int) &&& ~~~BitVec.ofInt IntKind.i64.bits ((Y : Nat) : Int)).toNat = 0 := bits_ext fun i => by
      rw [andNot_bits hX hY, Nat.zero_testBit]
      exact ⟨fun hh => absurd (h i hh.1) hh.2, fun hh => by cases hh⟩
    rw [this]; rfl
def RIsIn (xs : List AV) (r : AV) (objs : List AObj) : Prop := ∃ X Y : Nat, xs = [.int .i64 ((X : Nat) : Int), .int .i64 ((Y : Nat) : Int)] ∧ X < 2 ^ 62 ∧ Y < 2 ^ 62 ∧ r = .bool ((X &&& Y) == X) ∧ objs = []
theorem RIsIn_eq {xs : List AV} {X Y : Nat} (hx : xs = [.int .i64 ((X : Nat) : Int), .int .i64 ((Y : Nat) : Int)]) (h : X < 2 ^ 62) (h1 : Y < 2 ^ 62) : RIsIn xs (.bool ((X &&& Y) == X)) [] := ⟨X, Y, hx, h, h1, rfl, rfl⟩
theorem s_impl_isIn : PureSound Try.prog 181 RIsIn := by
  have hR : Rely Try.prog (ctxOf []) := rely_nil mixed
  refine pure_of_aw b_impl_isIn ?_
  rintro xs r objs ⟨X, Y, rfl, hX, hY, rfl, rfl⟩ -
  have h0 := andNot_zero hX hY
  refine ⟨by simp, vc2_sound hR _ _ _ _ _ ?_⟩
  conv => whnf
  repeat' ((first | contradiction | (refine And.intro (fun hb => ?_) (fun hb => ?_) <;> first | contradiction | ((try simp only [SB, reduceCtorEq] at hb); try (exfalso; first | contradiction | omega))) | refine G2 ?_ | rw [ints_at (by omega)] | rw [ints_at0 (by omega)] | rw [ints_at' (by omega) (by omega)] | refine G1 ?_ | fail) <;> conv => whnf)
  all_goals
    refine ⟨.inl rfl, ?_⟩
    conv => whnf
    refine ⟨[], ⟨rfl, trivial⟩, ?_, rfl, rfl⟩
    conv => whnf
    left
    conv => lhs; whnf
    refine congrArg AV.bool ?_
    symm
    first
    | exact h0.1 (by assumption)
    | exact Bool.eq_false_iff.2 fun h => absurd (h0.2 h) (by assumption)
/-! ### rings that live -/
def Lives (G : GraphD) (src : List Nat) (all : Nat) : Prop := ∃ p, p < G.length ∧ Rch (Adj G) (· ∈ src) p ∧ (∃ s ∈ G.getD p [], Mut (Adj G) p s.1) ∧
  ∀ b, all.testBit b = true → ∃ q, ∃ s ∈ G.getD q [], Mut (Adj G) p q ∧ Mut (Adj G) p s.1 ∧ s.2.toNat.testBit b = true
def Inn (G : GraphD) (F out : List Int) (r : Int) (q i : Nat) : Prop := q < G.length ∧ i < (G.getD q []).length ∧ 0 ≤ F.getD q 0 ∧ out.getD q 0 = r ∧ out.getD ((G.getD q []).getD i default).1 0 = r
def Bef (p j q i : Nat) : Prop := q < p ∨ (q = p ∧ i < j)
structure LvI (G : GraphD) (F out : List Int) (p j : Nat) (ms rs : List MEnt) : Prop where
  pos : ∀ r, 0 ≤ mget ms [.i r] ∧ mget ms [.i r] < 2 ^ 31
  mrk : ∀ r b, (mget ms [.i r]).toNat.testBit b = true ↔ ∃ q i, Bef p j q i ∧ Inn G F out r q i ∧ ((G.getD q []).getD i default).2.toNat.testBit b = true
  rg : ∀ r, mhas rs [.i r] = true ↔ ∃ q i, Bef p j q i ∧ Inn G F out r q i
  shape : ∀ e ∈ rs, ∃ r, e.1 = [.i r]
theorem lv_start (G : GraphD) (F out : List Int) : LvI G F out 0 0 [] [] := by
  refine ⟨fun r => ⟨Int.le_refl _, show (0 : Int) < 2 ^ 31 by decide⟩, fun r b => ?_, fun r => ?_, fun e h => by cases h⟩
  · constructor
    · intro h; simp [mget] at h
    · rintro ⟨q, i, h, _⟩; rcases h with h | ⟨_, h⟩ <;> omega
  · constructor
    · intro h; simp [mhas] at h
    · rintro ⟨q, i, h, _⟩; rcases h with h | ⟨_, h⟩ <;> omega
section
variable {G : GraphD} {F out : List Int} {p j : Nat} {ms rs : List MEnt}
theorem LvI.next (h : LvI G F out p j ms rs) (hj : (G.getD p []).length ≤ j) : LvI G F out (p + 1) 0 ms rs := by
  have key : ∀ q i r, Inn G F out r q i → (Bef p j q i ↔ Bef (p + 1) 0 q i) := by
    rintro q i r ⟨_, h2, _⟩
    unfold Bef
    by_cases hq : q = p
    · subst hq; constructor <;> intro <;> omega
    · constructor <;> intro <;> omega
  refine ⟨h.pos, fun r b => (h.mrk r b).trans ?_, fun r => (h.rg r).trans ?_, h.shape⟩
  · exact ⟨fun ⟨q, i, h1, h2, h3⟩ => ⟨q, i, (key q i r h2).1 h1, h2, h3⟩, fun ⟨q, i, h1, h2, h3⟩ => ⟨q, i, (key q i r h2).2 h1, h2, h3⟩⟩
  · exact ⟨fun ⟨q, i, h1, h2⟩ => ⟨q, i, (key q i r h2).1 h1, h2⟩, fun ⟨q, i, h1, h2⟩ => ⟨q, i, (key q i r h2).2 h1, h2⟩⟩
theorem bef_succ {q i : Nat} : Bef p (j + 1) q i ↔ Bef p j q i ∨ (q = p ∧ i = j) := by unfold Bef; omega
theorem LvI.skip (h : LvI G F out p j ms rs) (hn : ∀ r, ¬ Inn G F out r p j) : LvI G F out p (j + 1) ms rs := by
  refine ⟨h.pos, fun r b => (h.mrk r b).trans ?_, fun r => (h.rg r).trans ?_, h.shape⟩
  · refine ⟨fun ⟨q, i, h1, h2⟩ => ⟨q, i, bef_succ.2 (.inl h1), h2⟩, fun ⟨q, i, h1, h2, h3⟩ => ⟨q, i, ?_, h2, h3⟩⟩
    rcases bef_succ.1 h1 with h1 | ⟨rfl, rfl⟩
    · exact h1
    · exact absurd h2 (hn r)
  · refine ⟨fun ⟨q, i, h1, h2⟩ => ⟨q, i, bef_succ.2 (.inl h1), h2⟩, fun ⟨q, i, h1, h2⟩ => ⟨q, i, ?_, h2⟩⟩
    rcases bef_succ.1 h1 with h1 | ⟨rfl, rfl⟩
    · exact h1
    · exact absurd h2 (hn r)
theorem LvI.put (h : LvI G F out p j ms rs) {r0 : Int} (hin : Inn G F out r0 p j) {m : Nat} (hm : ((G.getD p []).getD j default).2.toNat = m) (hml : m < 2 ^ 31) :
    LvI G F out p (j + 1) (mset ms [.i r0] (((mget ms [.i r0]).toNat ||| m : Nat) : Int)) (mset rs [.i r0] 1) := by
  have hp := h.pos r0
  have hlt : (mget ms [.i r0]).toNat ||| m < 2 ^ 31 := Nat.or_lt_two_pow (by omega) hml
  have hr : ∀ r, Inn G F out r p j → r = r0 := fun r ⟨_, _, _, h1, _⟩ => by rw [← h1]; exact hin.2.2.2.1
  refine ⟨fun r => ?_, fun r b => ?_, fun r => ?_, fun e he => ?_⟩
  · rw [mget_set]
    split
    · omega
    · exact h.pos r
  · rw [mget_set]
    by_cases hrr : r = r0
    · subst hrr
      rw [if_pos rfl, Int.toNat_natCast, Nat.testBit_or, Bool.or_eq_true, h.mrk]
      constructor
      · rintro (⟨q, i, h1, h2⟩ | h1)
        · exact ⟨q, i, bef_succ.2 (.inl h1), h2⟩
        · exact ⟨p, j, bef_succ.2 (.inr ⟨rfl, rfl⟩), hin, by rw [hm]; exact h1⟩
      · rintro ⟨q, i, h1, h2, h3⟩
        rcases bef_succ.1 h1 with h1 | ⟨rfl, rfl⟩
        · exact .inl ⟨q, i, h1, h2, h3⟩
        · exact .inr (by rw [← hm]; exact h3)
    · rw [if_neg (by simpa using hrr), h.mrk]
      refine ⟨fun ⟨q, i, h1, h2⟩ => ⟨q, i, bef_succ.2 (.inl h1), h2⟩, fun ⟨q, i, h1, h2, h3⟩ => ⟨q, i, ?_, h2, h3⟩⟩
      rcases bef_succ.1 h1 with h1 | ⟨rfl, rfl⟩
      · exact h1
      · exact absurd (hr r h2) hrr
  · rw [mhas_set, h.rg]
    constructor
    · rintro (h1 | ⟨q, i, h1, h2⟩)
      · have : r = r0 := by simpa using h1
        subst this
        exact ⟨p, j, bef_succ.2 (.inr ⟨rfl, rfl⟩), hin⟩
      · exact ⟨q, i, bef_succ.2 (.inl h1), h2⟩
    · rintro ⟨q, i, h1, h2⟩
      rcases bef_succ.1 h1 with h1 | ⟨rfl, rfl⟩
      · exact .inr ⟨q, i, h1, h2⟩
      · exact .inl (by rw [hr r h2])
  · unfold mset at he
    split at he
    · obtain ⟨e0, h0, rfl⟩ := List.mem_map.1 he
      split
      · exact ⟨r0, rfl⟩
      · exact h.shape e0 h0
    · rcases List.mem_append.1 he with he | he
      · exact h.shape e he
      · simp at he; subst he; exact ⟨r0, rfl⟩
end
theorem far_rch {G : GraphD} {src : List Nat} {q : Nat} (hq : q < G.length) : 0 ≤ (farL (Adj G) (· ∈ src) G.length).getD q 0 ↔ Rch (Adj G) (· ∈ src) q := by
  rw [farL_at hq]
  constructor
  · intro h
    rcases dist_cases (Adj G) (· ∈ src) q with c | c
    · omega
    · exact walk_rch c.2.1
  · intro h
    obtain ⟨k, hk⟩ := rch_walk h
    rcases dist_cases (Adj G) (· ∈ src) q with c | c
    · exact absurd hk (c.2 k)
    · exact c.1
theorem lives_of {G : GraphD} {src : List Nat} {all : Nat} {out : List Int} (hG : GOk G) (ho : IsRings (Adj G) G.length out) {ms rs : List MEnt} (h : LvI G (farL (Adj G) (· ∈ src) G.length) out G.length 0 ms rs) :
    Lives G src all ↔ ∃ r, mhas rs [.i r] = true ∧ ∀ b, all.testBit b = true → (mget ms [.i r]).toNat.testBit b = true := by
  have hmem : ∀ q i, i < (G.getD q []).length → (G.getD q []).getD i default ∈ G.getD q [] := fun q i hi => getD_mem' hi
  constructor
  · rintro ⟨p, hp, hr, ⟨s, hs, hm⟩, hall⟩
    refine ⟨out.getD p 0, ?_, fun b hb => ?_⟩
    · rw [h.rg]
      obtain ⟨i, hi, he⟩ := List.getElem_of_mem hs
      have hse : (G.getD p []).getD i default = s := by rw [List.getD_eq_getElem?_getD (l := _) (i := i), List.getElem?_eq_getElem hi]; exact he
      exact ⟨p, i, .inl hp, hp, hi, (far_rch hp).2 hr, rfl, by rw [hse]; exact ((ho.2.2 p s.1 hp (hG p s hs)).2 hm).symm⟩
    · rw [h.mrk]
      obtain ⟨q, s, hs, hpq, hps, hb2⟩ := hall b hb
      obtain ⟨i, hi, he⟩ := List.getElem_of_mem hs
      have hse : (G.getD q []).getD i default = s := by rw [List.getD_eq_getElem?_getD (l := _) (i := i), List.getElem?_eq_getElem hi]; exact he
      have hq : q < G.length := (adj_lt hG ⟨s.2, hs⟩).1
      refine ⟨q, i, .inl hq, ⟨hq, hi, (far_rch hq).2 ?_, ((ho.2.2 p q hp hq).2 hpq).symm, ?_⟩, by rw [hse]; exact hb2⟩
      · exact hpq.1.mono fun x hx => hx ▸ hr
      · rw [hse]; exact ((ho.2.2 p s.1 hp (hG q s hs)).2 hps).symm
  · rintro ⟨r, hr, hall⟩
    obtain ⟨p, i, _, hp, hi, hf, h1, h2⟩ := (h.rg r).1 hr
    have hsl := hG p _ (hmem p i hi)
    refine ⟨p, hp, (far_rch hp).1 hf, ⟨_, hmem p i hi, (ho.2.2 _ _ hp hsl).1 (h1.trans h2.symm)⟩, fun b hb => ?_⟩
    obtain ⟨q, k, _, ⟨hq, hk, _, g1, g2⟩, g3⟩ := (h.mrk r b).1 (hall b hb)
    have hkl := hG q _ (hmem q k hk)
    exact ⟨q, _, hmem q k hk, (ho.2.2 _ _ hp hq).1 (h1.trans g1.symm), (ho.2.2 _ _ hp hkl).1 (h1.trans g2.symm), g3⟩
def MarksOk (G : GraphD) : Prop := ∀ p, ∀ s ∈ G.getD p [], 0 ≤ s.2 ∧ s.2 < 2 ^ 31
def RLives (xs : List AV) (r : AV) (objs : List AObj) : Prop := ∃ (G : GraphD) (src : List Nat) (all : Nat) (b : Bool), xs = [.rptr [.val (gRows G)] 0, .val (ints (natsI src)), .int .i64 ((all : Nat) : Int)] ∧ GOk G ∧ MarksOk G ∧ G.length ≤ 100000 ∧ steps G ≤ 1000000000 ∧
  (∀ p ∈ src, p < G.length) ∧ src.length ≤ 100000 ∧ all < 2 ^ 31 ∧ (b = true ↔ Lives G src all) ∧ r = .bool b ∧ objs = []
set_option maxHeartbeats 8000000 in
theorem s_impl_lives : PureSound Try.prog 118 RLives := by
  have hR : Rely Try.prog (ctxOf [(103, .pure RFar), (104, .gen 0 GRings), (181, .pure RIsIn)]) :=
    rely_cons b_impl_graph_far.has s_impl_far (rely_cons b_impl_graph_rings.has s_impl_rings (rely_cons b_impl_isIn.has s_impl_isIn (rely_nil mixed)))
  refine pure_of_aw b_impl_graph_lives ?_
  rintro xs r objs ⟨G, src, all, bb, rfl, hG, hM, hn, hst, hsrc, hsl, hall, hbb, rfl, rfl⟩ -
  have hle := length_gRows G
  refine ⟨by simp, vc2_sound hR _ _ _ _ _ ?_⟩
  conv => whnf
  repeat' ((first | contradiction | (refine And.intro (fun hb => ?_) (fun hb => ?_) <;> first | contradiction | ((try simp only [SB, reduceCtorEq] at hb); try (exfalso; first | contradiction | omega))) | refine G2 ?_ | rw [ints_at (by omega)] | rw [ints_at0 (by omega)] | rw [ints_at' (by omega) (by omega)] | refine G1 ?_ | rw [hle] | refine ⟨_, _, RFar_eq (G := G) (src := src) rfl hG hn hst hsrc hsl, ?_⟩ | refine ⟨GRings_mk hG hn hst (fun out hout => ?_)⟩ | fail) <;> conv => whnf)
  have hfl : (farL (Adj G) (· ∈ src) G.length).length = G.length := length_farL
  have hlv := fun ms rs h => lives_of (src := src) (all := all) hG hout (ms := ms) (rs := rs) h
  have hpo : ∀ p, p < G.length → 0 ≤ out.getD p 0 ∧ out.getD p 0 < G.length := hout.2.1
  have hol : out.length = G.length := hout.1
  generalize hF : farL (Adj G) (· ∈ src) G.length = F at *
  have hFi := (length_ints F).trans hfl
  have hoi := (length_ints out).trans hol
  refine Lp.intro (α := Nat × List MEnt × List MEnt) (fun c => LvI G F out c.1 0 c.2.1 c.2.2 ∧ c.1 ≤ G.length) (fun c => G.length - c.1)
    (fun c => [(2, .int .i64 all), (7, .val (ints F)), (8, .val (ints out)), (9, .mp 0), (10, .mp 1), (26, .val (gRows G)), (27, .int .i64 G.length), (28, .int .i64 c.1)]) (fun c => [some (.map false c.2.1), some (.map false c.2.2)]) ?_ ?_
  · refine ⟨(0, [], []), ⟨lv_start G F out, Nat.zero_le _⟩, [some 2, some 3], rfl, rfl, And.intro ⟨rfl, rfl⟩ (And.intro ⟨rfl, rfl⟩ trivial), ?_⟩
    exact ⟨.inl rfl, .inr (snap_all rfl hFi), .inr (snap_all rfl hoi), rfl, rfl, .inl rfl, .inl rfl, .inl rfl, trivial⟩
  rintro ⟨p, ms, rs⟩ ⟨hI, hp⟩
  dsimp only at hI hp ⊢
  refine vc2_sound hR _ _ _ _ _ ?_
  by_cases hlt : p < G.length
  · have hsl2 := length_stepRows (G.getD p [])
    have hLb := steps_le hlt
    conv => whnf
    repeat' ((first | contradiction | (refine And.intro (fun hb => ?_) (fun hb => ?_) <;> first | contradiction | ((try simp only [SB, reduceCtorEq] at hb); try (exfalso; first | contradiction | omega))) | refine G2 ?_ | rw [ints_at (by omega)] | rw [ints_at0 (by omega)] | rw [ints_at' (by omega) (by omega)] | refine G1 ?_ | rw [gRows_at hlt] | fail) <;> conv => whnf)
    refine Lp.intro (α := Nat × List MEnt × List MEnt) (fun c => LvI G F out p c.1 c.2.1 c.2.2 ∧ c.1 ≤ (G.getD p []).length) (fun c => (G.getD p []).length - c.1)
      (fun c => [(2, .int .i64 all), (7, .val (ints F)), (8, .val (ints out)), (9, .mp 0), (10, .mp 1), (11, .int .i64 p), (26, .val (gRows G)), (27, .int .i64 G.length), (28, .int .i64 p), (33, .val (stepRows (G.getD p []))), (34, .int .i64 (G.getD p []).length), (35, .int .i64 c.1)]) (fun c => [some (.map false c.2.1), some (.map false c.2.2)]) ?_ ?_
    · refine ⟨(0, ms, rs), ⟨hI, Nat.zero_le _⟩, [some 0, some 1], rfl, rfl, And.intro ⟨rfl, rfl⟩ (And.intro ⟨rfl, rfl⟩ trivial), ?_⟩
      exact ⟨.inl rfl, .inl rfl, .inl rfl, rfl, rfl, .inl rfl, .inl rfl, .inl rfl, .inl rfl, .inl rfl, .inl (congrArg (fun x : Nat => AV.int .i64 x) hsl2), .inl rfl, trivial⟩
    clear hI ms rs
    rintro ⟨j, ms, rs⟩ ⟨hI, hj⟩
    dsimp only at hI hj ⊢
    refine vc2_sound hR _ _ _ _ _ ?_
    by_cases hjl : j < (G.getD p []).length
    · have hs : ((G.getD p []).getD j default).1 < G.length := hG p _ (getD_mem' hjl)
      have hm := hM p _ (getD_mem' hjl)
      have hFp : (ints F)[((p : Nat) : Int).toNat]? = some [.int .i64 (F.getD p 0)] := by rw [ints_at (by omega)]
      have hop : (ints out)[((p : Nat) : Int).toNat]? = some [.int .i64 (out.getD p 0)] := by rw [ints_at (by omega)]
      have hos : (ints out)[((((G.getD p []).getD j default).1 : Nat) : Int).toNat]? = some [.int .i64 (out.getD ((G.getD p []).getD j default).1 0)] := by rw [ints_at (by omega)]
      conv => whnf
      repeat' ((first | contradiction | (refine And.intro (fun hb => ?_) (fun hb => ?_) <;> first | contradiction | ((try simp only [SB, reduceCtorEq] at hb); try (exfalso; first | contradiction | omega))) | refine G2 ?_ | rw [ints_at (by omega)] | rw [ints_at0 (by omega)] | rw [ints_at' (by omega) (by omega)] | refine G1 ?_ | rw [step_at hjl] | rw [hFp] | rw [hop] | rw [hos] | fail) <;> conv => whnf)
      · have hpos := hI.pos (out.getD p 0)
        have hor := or_val (X := (mget ms [.i (out.getD p 0)]).toNat) (Y := ((G.getD p []).getD j default).2.toNat) (by omega) (by omega)
        rw [Int.toNat_of_nonneg hpos.1, Int.toNat_of_nonneg hm.1] at hor
        have hput := hI.put (r0 := out.getD p 0) ⟨hlt, hjl, by assumption, rfl, by symm; assumption⟩ rfl (by omega)
        refine ⟨(j + 1, _, _), ⟨hput, hjl⟩, by dsimp only; omega, [some 0, some 1], rfl, rfl, And.intro ⟨rfl, congrArg (mset ms [Sc.i (out.getD p 0)]) hor⟩ (And.intro ⟨rfl, rfl⟩ trivial), ?_⟩
        exact ⟨.inl rfl, .inl rfl, .inl rfl, rfl, rfl, .inl rfl, .inl rfl, .inl rfl, .inl rfl, .inl rfl, .inl rfl, .inl rfl, trivial⟩
      all_goals
        refine ⟨(j + 1, ms, rs), ⟨hI.skip (fun r hr => ?_), hjl⟩, by dsimp only; omega, [some 0, some 1], rfl, rfl, And.intro ⟨rfl, rfl⟩ (And.intro ⟨rfl, rfl⟩ trivial), ?_⟩
        · obtain ⟨_, _, h1, h2, h3⟩ := hr
          omega
        · exact ⟨.inl rfl, .inl rfl, .inl rfl, rfl, rfl, .inl rfl, .inl rfl, .inl rfl, .inl rfl, .inl rfl, .inl rfl, .inl rfl, trivial⟩
    · conv => whnf
      repeat' ((first | contradiction | (refine And.intro (fun hb => ?_) (fun hb => ?_) <;> first | contradiction | ((try simp only [SB, reduceCtorEq] at hb); try (exfalso; first | contradiction | omega))) | refine G2 ?_ | rw [ints_at (by omega)] | rw [ints_at0 (by omega)] | rw [ints_at' (by omega) (by omega)] | refine G1 ?_ | fail) <;> conv => whnf)
      refine ⟨(p + 1, ms, rs), ⟨hI.next (by omega), hlt⟩, by dsimp only; omega, [some 0, some 1], rfl, rfl, And.intro ⟨rfl, rfl⟩ (And.intro ⟨rfl, rfl⟩ trivial), ?_⟩
      exact ⟨.inl rfl, .inl rfl, .inl rfl, rfl, rfl, .inl rfl, .inl rfl, .inl rfl, trivial⟩
  · obtain rfl : p = G.length := by omega
    conv => whnf
    repeat' ((first | contradiction | (refine And.intro (fun hb => ?_) (fun hb => ?_) <;> first | contradiction | ((try simp only [SB, reduceCtorEq] at hb); try (exfalso; first | contradiction | omega))) | refine G2 ?_ | rw [ints_at (by omega)] | rw [ints_at0 (by omega)] | rw [ints_at' (by omega) (by omega)] | refine G1 ?_ | fail) <;> conv => whnf)
    have hlv := hlv ms rs hI
    refine Lp.intro (α := Option MEnt × List MEnt) (fun c => (∀ e ∈ c.2, e ∈ rs) ∧ ∀ e ∈ rs, e ∈ c.2 ∨ ¬ ∀ b, all.testBit b = true → (mget ms e.1).toNat.testBit b = true) (fun c => c.2.length)
      (fun c => [(2, .int .i64 all), (9, .mp 0), (73, .ptr 1 0 0)]) (fun c => [some (.map false ms), some (.itr false c.1 c.2)]) ?_ ?_
    · refine ⟨(none, rs), ⟨fun e h => h, fun e h => .inl h⟩, [some 0, some 2], rfl, rfl, And.intro ⟨rfl, rfl⟩ (And.intro ⟨rfl, rfl, rfl⟩ trivial), ?_⟩
      exact ⟨.inl rfl, rfl, rfl, trivial⟩
    rintro ⟨cur, left⟩ ⟨h1, h2⟩
    dsimp only at h1 h2 ⊢
    refine vc2_sound hR _ _ _ _ _ ?_
    conv => whnf
    repeat' ((first | contradiction | (refine And.intro (fun hb => ?_) (fun hb => ?_) <;> first | contradiction | ((try simp only [SB, reduceCtorEq] at hb); try (exfalso; first | contradiction | omega))) | refine G2 ?_ | rw [ints_at (by omega)] | rw [ints_at0 (by omega)] | rw [ints_at' (by omega) (by omega)] | refine G1 ?_ | fail) <;> conv => whnf)
    · have hl : left = [] := by assumption
      subst hl
      refine ⟨.inl rfl, ?_⟩
      conv => whnf
      refine ⟨[], ⟨rfl, trivial⟩, ?_, rfl, rfl⟩
      conv => whnf
      left
      conv => lhs; whnf
      refine congrArg AV.bool (Eq.symm (Bool.eq_false_iff.2 fun ht => ?_))
      obtain ⟨r, g1, g2⟩ := hlv.1 (hbb.1 ht)
      unfold mhas at g1
      obtain ⟨e, he, hk⟩ := List.any_eq_true.1 g1
      have hk : e.1 = [Sc.i r] := by simpa using hk
      rcases h2 e he with h | h
      · cases h
      · exact h (by rw [hk]; exact g2)
    · revert hb
      intro pre e post hsp
      have hel : e ∈ left := by rw [hsp]; simp
      obtain ⟨r, hr⟩ := hI.shape e (h1 e hel)
      obtain ⟨k, v⟩ := e
      dsimp only at hr
      subst hr
      have hpos := hI.pos r
      conv => whnf
      repeat' ((first | contradiction | (refine And.intro (fun hb => ?_) (fun hb => ?_) <;> first | contradiction | ((try simp only [SB, reduceCtorEq] at hb); try (exfalso; first | contradiction | omega))) | refine G2 ?_ | rw [ints_at (by omega)] | rw [ints_at0 (by omega)] | rw [ints_at' (by omega) (by omega)] | refine G1 ?_ | refine ⟨_, _, RIsIn_eq (X := all) (Y := (mget ms [.i r]).toNat) (congrArg (fun z => [AV.int .i64 ((all : Nat) : Int), AV.int .i64 z]) (Int.toNat_of_nonneg hpos.1).symm) (by omega) (by omega), ?_⟩ | fail) <;> conv => whnf)
      · have hsub := sub_iff.1 (beq_iff_eq.2 hb)
        refine ⟨.inl rfl, ?_⟩
        conv => whnf
        refine ⟨[], ⟨rfl, trivial⟩, ?_, rfl, rfl⟩
        conv => whnf
        left
        conv => lhs; whnf
        refine congrArg AV.bool (Eq.symm (hbb.2 (hlv.2 ⟨r, ?_, hsub⟩)))
        unfold mhas
        rw [List.any_eq_true]
        exact ⟨_, h1 _ hel, by simp⟩
      · have hsub : ¬ ∀ b, all.testBit b = true → (mget ms [.i r]).toNat.testBit b = true := fun h => hb (beq_iff_eq.1 (sub_iff.2 h))
        refine ⟨(some ([.i r], v), pre ++ post), ⟨fun e he => h1 e ?_, fun e he => ?_⟩, ?_, [some 0, some 1], rfl, rfl, And.intro ⟨rfl, rfl⟩ (And.intro ⟨rfl, rfl, rfl⟩ trivial), ?_⟩
        · rw [hsp]
          rcases List.mem_append.1 he with he | he
          · exact List.mem_append_left _ he
          · exact List.mem_append_right _ (List.mem_cons_of_mem _ he)
        · rcases h2 e he with h | h
          · rw [hsp] at h
            rcases List.mem_append.1 h with h | h
            · exact .inl (List.mem_append_left _ h)
            · rcases List.mem_cons.1 h with rfl | h
              · exact .inr hsub
              · exact .inl (List.mem_append_right _ h)
          · exact .inr h
        · rw [hsp]; simp
        · exact ⟨.inl rfl, rfl, rfl, trivial⟩
def EA (a : AutoD) (p q : Nat) : Prop := ∃ e ∈ a.edges, e.src.toNat = p ∧ e.dst.toNat = q
theorem mem_at {a : AutoD} {e : EdgeD} (he : e ∈ a.edges) : ∃ i, i < a.edges.length ∧ a.edges.getD i default = e := by
  obtain ⟨i, hi, rfl⟩ := List.getElem_of_mem he
  exact ⟨i, hi, by rw [List.getD_eq_getElem?_getD, List.getElem?_eq_getElem hi]; rfl⟩
theorem ea_lt {a : AutoD} (h : AutoOk a) {p q : Nat} (ha : EA a p q) : p < a.states.toNat ∧ q < a.states.toNat := by
  obtain ⟨e, he, rfl, rfl⟩ := ha
  obtain ⟨i, hi, rfl⟩ := mem_at he
  have := edge_in h hi
  unfold EdgeIn at this
  omega
abbrev BitP (X : Nat) : Nat → Prop := fun i => X.testBit i = true
abbrev SubB (X Y : Nat) : Prop := ∀ p, BitP X p → BitP Y p
structure Rnd (a : AutoD) (S X Y i : Nat) : Prop where
  lt : Y < 2 ^ 31
  sub : SubB X Y
  rch : ∀ p, BitP Y p → Rch (EA a) (BitP S) p
  got : ∀ j, j < i → j < a.edges.length → BitP X (a.edges.getD j default).src.toNat → BitP Y (a.edges.getD j default).dst.toNat
  cls : (∀ p q, BitP X p → EA a p q → BitP X q) → Y = X
theorem Rnd.no {a : AutoD} {S X Y i : Nat} (h : Rnd a S X Y i) (hb : i < a.edges.length → Y.testBit (a.edges.getD i default).src.toNat = false) : Rnd a S X Y (i + 1) := by
  refine ⟨h.lt, h.sub, h.rch, fun j hj hjl hx => ?_, h.cls⟩
  by_cases hji : j = i
  · subst hji
    have := h.sub _ hx
    rw [show BitP Y (a.edges.getD j default).src.toNat ↔ Y.testBit (a.edges.getD j default).src.toNat = true from Iff.rfl, hb hjl] at this
    cases this
  · exact h.got j (by omega) hjl hx
theorem Rnd.yes {a : AutoD} (ha : AutoOk a) {S X Y i : Nat} (h : Rnd a S X Y i) (hi : i < a.edges.length) (hb : Y.testBit (a.edges.getD i default).src.toNat = true) : Rnd a S X (Y ||| 2 ^ (a.edges.getD i default).dst.toNat) (i + 1) := by
  have he : EA a (a.edges.getD i default).src.toNat (a.edges.getD i default).dst.toNat := ⟨_, getD_mem' hi, rfl, rfl⟩
  have hlt := ea_lt ha he
  have hs := ha.1.2.1
  refine ⟨ins_lt h.lt (by omega), fun p hp => testBit_ins.2 (.inl (h.sub p hp)), fun p hp => ?_, fun j hj hjl hx => ?_, fun hc => ?_⟩
  · rcases testBit_ins.1 hp with h1 | rfl
    · exact h.rch p h1
    · exact .step (h.rch _ hb) he
  · refine testBit_ins.2 ?_
    by_cases hji : j = i
    · subst hji; exact .inr rfl
    · exact .inl (h.got j (by omega) hjl hx)
  · have e := h.cls hc
    subst e
    refine bits_ext fun p => ⟨fun hp => ?_, fun hp => testBit_ins.2 (.inl hp)⟩
    rcases testBit_ins.1 hp with h1 | rfl
    · exact h1
    · exact hc _ _ hb he
theorem Rnd.closed {a : AutoD} {S X i : Nat} (h : Rnd a S X X i) (hi : a.edges.length ≤ i) : ∀ p q, BitP X p → EA a p q → BitP X q := by
  rintro p q hp ⟨e, he, rfl, rfl⟩
  obtain ⟨j, hj, rfl⟩ := mem_at he
  exact h.got j (by omega) hj hp
theorem pow_le31 {n : Nat} (h : n ≤ 31) : 2 ^ n ≤ 2 ^ 31 := Nat.pow_le_pow_right (by decide) h
def c_impl_SetList : ICode := (.seq (.reg [Ol 2 .mv [.c .snil]]) (.seq (.seq (.reg [O1 5 .mv 0, O1 6 (.call 119) 5, O1 7 .not 6]) (.cond (.t 7) (.seq (.reg [Ol 2 .mv [.c .snil]]) .ret) .skip)) (.seq (.reg [Ol 3 .mv [.c .snil]]) (.seq (.seq (.reg [Ol 8 .mv [ci 0]]) (.block 0 (.loop (.seq (.reg [Ol 9 (.bin .lss) [.t 8, ci 31]]) (.seq (.cond (.t 9) .skip (.exit 0)) (.seq (.block 1 (.seq (.reg [O1 10 .mv 8, O1 4 .mv 10]) (.seq (.reg [O1 11 .mv 0, O1 12 .mv 4, O2 13 (.call 125) 11 12]) (.cond (.t 13) (.reg [O1 14 .mv 3, O1 15 .mv 4, O1 16 (.bslv 1) 15, O2 17 (.app 1 8) 14 16, O1 3 .mv 17]) .skip)))) (.reg [Ol 18 (.bin .add) [.t 8, ci 1], O1 8 .mv 18]))))))) (.seq (.reg [O1 19 .mv 3, O1 2 .mv 19]) .ret)))))
theorem b_impl_SetList : Body Try.prog 80 20 c_impl_SetList [(.t 2)] := body_mk Try.func80 (by kernel_rfl) (by decide)
def stepI (a : AutoD) (X : Nat) (x : Int) : Nat → Nat
  | 0 => 0
  | i + 1 => if (a.edges.getD i default).letter = x ∧ X.testBit (a.edges.getD i default).src.toNat = true then stepI a X x i ||| 2 ^ (a.edges.getD i default).dst.toNat else stepI a X x i
def stepU (a : AutoD) (X : Nat) (x : Int) : Nat := stepI a X x a.edges.length
theorem bit_stepI {a : AutoD} {X q : Nat} {x : Int} : ∀ {i : Nat}, (stepI a X x i).testBit q = true ↔ ∃ j, j < i ∧ (a.edges.getD j default).letter = x ∧ X.testBit (a.edges.getD j default).src.toNat = true ∧ (a.edges.getD j default).dst.toNat = q
  | 0 => by simp [stepI]
  | i + 1 => by
    unfold stepI
    split
    · rename_i h
      rw [testBit_ins, bit_stepI (i := i)]
      constructor
      · rintro (⟨j, h1, h2⟩ | rfl)
        · exact ⟨j, by omega, h2⟩
        · exact ⟨i, by omega, h.1, h.2, rfl⟩
      · rintro ⟨j, h1, h2, h3, h4⟩
        by_cases hj : j = i
        · subst hj; exact .inr h4.symm
        · exact .inl ⟨j, by omega, h2, h3, h4⟩
    · rename_i h
      rw [bit_stepI (i := i)]
      constructor
      · rintro ⟨j, h1, h2⟩; exact ⟨j, by omega, h2⟩
      · rintro ⟨j, h1, h2, h3, h4⟩
        by_cases hj : j = i
        · subst hj; exact absurd ⟨h2, h3⟩ h
        · exact ⟨j, by omega, h2, h3, h4⟩
/-! ### those that are so near -/
/-! ### the members of a set, as a list -/
def RSetList (xs : List AV) (r : AV) (objs : List AObj) : Prop := ∃ X : Nat, xs = [.int .i64 ((X : Nat) : Int)] ∧ X < 2 ^ 31 ∧ r = .ref 0 0 (bitL X 31).length ∧ objs = [.arr 1 (ints (natsI (bitL X 31)))]
theorem bitL_yes {X i : Nat} (h : X.testBit i = true) : bitL X (i + 1) = bitL X i ++ [i] := by rw [bitL_succ, if_pos h]
theorem bitL_no {X i : Nat} (h : X.testBit i = false) : bitL X (i + 1) = bitL X i := by rw [bitL_succ, if_neg (by rw [h]; decide), List.append_nil]
theorem s_impl_SetList : PureSound Try.prog 80 RSetList := by
  have hR : Rely Try.prog (ctxOf [(125, .pure RHas), (119, .pure RSetOk)]) := rely_cons b_impl_has.has s_impl_has (rely_cons b_impl_SetOk.has s_impl_SetOk (rely_nil mixed))
  refine pure_of_aw b_impl_SetList ?_
  rintro xs r objs ⟨X, rfl, hX, rfl, rfl⟩ -
  refine ⟨by simp, vc2_sound hR _ _ _ _ _ ?_⟩
  conv => whnf
  repeat' ((first | contradiction | (refine And.intro (fun hb => ?_) (fun hb => ?_) <;> first | contradiction | ((try simp only [SB, reduceCtorEq] at hb); try (exfalso; first | contradiction | omega))) | refine G2 ?_ | rw [ints_at (by omega)] | rw [ints_at0 (by omega)] | rw [ints_at' (by omega) (by omega)] | refine G1 ?_ | refine ⟨_, _, RSetOk_mk, ?_⟩ | fail) <;> conv => whnf)
  refine Lp.intro (α := Nat) (fun i => i ≤ 31) (fun i => 31 - i) (fun i => [(0, .int .i64 X), (3, .ref 0 0 (bitL X i).length), (8, .int .i64 i)]) (fun i => [some (.arr 1 (ints (natsI (bitL X i))))]) ?_ ?_
  · refine ⟨0, by omega, [none], rfl, rfl, And.intro rfl trivial, ?_⟩
    exact ⟨.inl rfl, ⟨rfl, rfl, rfl⟩, .inl rfl, trivial⟩
  intro i hi
  have hn := bitL_len (X := X) (n := i)
  have hqi := (length_ints (natsI (bitL X i))).trans (length_natsI _)
  refine vc2_sound hR _ _ _ _ _ ?_
  by_cases hlt : i < 31
  · conv => whnf
    repeat' ((first | contradiction | (refine And.intro (fun hb => ?_) (fun hb => ?_) <;> first | contradiction | ((try simp only [SB, reduceCtorEq] at hb); try (exfalso; first | contradiction | omega))) | refine G2 ?_ | rw [ints_at (by omega)] | rw [ints_at0 (by omega)] | rw [ints_at' (by omega) (by omega)] | refine G1 ?_ | refine ⟨_, _, RHas_mk hX (by omega) (by omega), ?_⟩ | fail) <;> conv => whnf)
    · refine ⟨i + 1, by omega, by omega, [some 1], rfl, rfl, And.intro (And.intro rfl ?_) trivial, ?_⟩
      · rw [bitL_yes (by assumption)]; exact natsI_app rfl
      · exact ⟨.inl rfl, congrArg (AV.ref 1 0) (by rw [bitL_yes (by assumption)]; simp), .inl rfl, trivial⟩
    · have e := bitL_no (X := X) (i := i) (by assumption)
      refine ⟨i + 1, by omega, by omega, [some 0], rfl, rfl, And.intro (And.intro rfl ?_) trivial, ?_⟩
      · rw [e]
      · exact ⟨.inl rfl, congrArg (AV.ref 0 0) (by rw [e]), .inl rfl, trivial⟩
  · obtain rfl : i = 31 := by omega
    conv => whnf
    repeat' ((first | contradiction | (refine And.intro (fun hb => ?_) (fun hb => ?_) <;> first | contradiction | ((try simp only [SB, reduceCtorEq] at hb); try (exfalso; first | contradiction | omega))) | refine G2 ?_ | rw [ints_at (by omega)] | rw [ints_at0 (by omega)] | rw [ints_at' (by omega) (by omega)] | refine G1 ?_ | fail) <;> conv => whnf)
    refine ⟨.inl rfl, ?_⟩
    conv => whnf
    exact ⟨[some 0], ⟨rfl, And.intro (And.intro rfl rfl) trivial⟩, rfl, rfl, by simp [AObj.nov, ints_nov]⟩
/-! ### the nearest of a set -/
def c_spec_GenTakes : ICode := (.seq (.reg [O1 2 (.box 5) 0, O1 3 (.box 2) 1, Ol 4 .mv [cb false]]) (.seq (.seq (.reg [O1 13 (.ldn 5) 2, O1 14 (.call 69) 13, O1 15 .not 14, O1 16 .mv 15, Og 17 (.ldn 2) [.t 3] 16 false, Og 18 (.fadr 0) [.t 2] 16 false, Og 19 .ld1 [.t 18] 16 false, Og 20 (.call 47) [.t 17, .t 19] 16 false, Og 21 .not [.t 20] 16 false, Ol 22 .pick [.t 16, cb true, .t 21], O1 23 .mv 22, Og 24 (.fadr 1) [.t 2] 23 false, Og 25 .ld1 [.t 24] 23 false, Og 26 (.bin .eql) [.t 25, ci 0] 23 false, Ol 27 .pick [.t 23, cb true, .t 26]]) (.cond (.t 27) (.seq (.reg [Ol 4 .mv [cb false]]) .ret) .skip)) (.seq (.reg [O1 28 (.ldn 5) 2, O1 29 (.ldn 2) 3, O2 30 (.call 99) 28 29, O1 5 .mv 30]) (.seq (.reg [O1 31 .mv 5, O1 32 .len 31, O2 33 (.mks 1 8 [(.int .i64 0)]) 32 32, O1 6 .mv 33]) (.seq (.reg [O1 34 .mv 5, O1 35 .len 34, O2 36 (.mks 1 1 [(.bool false)]) 35 35, O1 7 .mv 36]) (.seq (.seq (.reg [Ol 8 .mv [ci 0]]) (.block 0 (.loop (.seq (.seq (.reg [O1 37 .mv 8, O1 38 (.ldn 2) 3, O1 39 (.call 91) 38, O2 40 (.bin .lss) 37 39]) (.cond (.t 40) .skip (.exit 0))) (.seq (.block 1 (.seq (.reg [Ol 9 .mv [ci 0]]) (.block 2 (.loop (.seq (.seq (.reg [O1 43 .mv 9, O1 44 (.fadr 4) 2, O1 45 .ld1 44, O1 46 .len 45, O2 47 (.bin .lss) 43 46]) (.cond (.t 47) .skip (.exit 2))) (.seq (.block 3 (.seq (.reg [O1 50 (.fadr 4) 2, O1 51 .ld1 50, O1 52 .mv 9, O2 53 (.iadr 4) 51 52, O1 54 (.ldn 4) 53, O0 10 (.alc [(.int .i64 0), (.int .i64 0), (.int .i64 0), (.int .i64 0)]), S2 (.st 4) 10 54]) (.seq (.reg [O1 55 .mv 8, O1 56 (.fadr 1) 2, O1 57 .ld1 56, O2 58 (.bin .mul) 55 57, O1 59 (.fadr 0) 10, O1 60 .ld1 59, O2 61 (.bin .add) 58 60, O1 11 .mv 61]) (.seq (.drw [O1 62 (.fadr 1) 10, O1 63 .ld1 62, O1 64 (.ldn 2) 3, O1 65 .mv 8, O2 66 (.call 93) 64 65, O2 67 (.bin .eql) 63 66, O1 68 .mv 67, Og 69 .mv [.t 5] 68 true, Og 70 .mv [.t 11] 68 true, Og 71 (.iadr 1) [.t 69, .t 70] 68 true, Og 72 .ld1 [.t 71] 68 true, Og 73 (.bin .geq) [.t 72, ci 0] 68 true, Ol 74 .pick [.t 68, .t 73, cb false], O1 75 .mv 74, Og 76 .mv [.t 5] 75 true, Og 77 .mv [.t 11] 75 true, Og 78 (.iadr 1) [.t 76, .t 77] 75 true, Og 79 .ld1 [.t 78] 75 true, Og 80 .mv [.t 5] 75 true, Og 81 (.ldn 2) [.t 3] 75 true, Og 82 .mv [.t 8] 75 true, Og 83 (.call 92) [.t 81, .t 82] 75 true, Og 84 (.fadr 1) [.t 2] 75 true, Og 85 .ld1 [.t 84] 75 true, Og 86 (.bin .mul) [.t 83, .t 85] 75 true, Og 87 (.fadr 2) [.t 10] 75 true, Og 88 .ld1 [.t 87] 75 true, Og 89 (.bin .add) [.t 86, .t 88] 75 true, Og 90 (.iadr 1) [.t 80, .t 89] 75 true, Og 91 .ld1 [.t 90] 75 true, Og 92 (.bin .eql) [.t 79, .t 91] 75 true, Ol 93 .pick [.t 75, .t 92, cb false]] (unB [0, 1, 0, 0, 12, 31, 63, 127, 127, 511, 1023, 2047, 4095, 8191, 16383, 16383, 65535, 131071, 16383, 16383, 16383, 1589247, 16383, 4210687, 16269311, 16383, 33570815, 133709823, 268189695, 536625151, 1073741823, 2147483647] 0) true true) (.cond (.t 93) (.seq (.reg [O1 94 .mv 7, O1 95 .mv 5, O1 96 .mv 11, O2 97 (.iadr 1) 95 96, O1 98 .ld1 97, O2 99 (.iadr 1) 94 98, Sl (.st 1) [.t 99, cb true]]) (.drw [O1 100 .mv 6, O1 101 .mv 5, O1 102 .mv 11, O2 103 (.iadr 1) 101 102, O1 104 .ld1 103, O1 105 .mv 6, O1 106 .mv 5, O1 107 .mv 11, O2 108 (.iadr 1) 106 107, O1 109 .ld1 108, O2 110 (.iadr 1) 105 109, O1 111 .ld1 110, O1 112 (.fadr 3) 10, O1 113 .ld1 112, O2 114 (.bin .or) 111 113, O2 115 (.iadr 1) 100 104, S2 (.st 1) 115 114] (unB [0, 0, 0, 6, 14, 0, 0, 0, 192, 448, 992, 2016, 0, 4096, 16352, 32767, 65535] 0) true true)) .skip))))) (.reg [O1 48 .mv 9, Ol 49 (.bin .add) [.t 48, ci 1], O1 9 .mv 49]))))))) (.reg [O1 41 .mv 8, Ol 42 (.bin .add) [.t 41, ci 1], O1 8 .mv 42])))))) (.seq (.seq (.reg [Ol 12 .mv [ci 0]]) (.block 4 (.loop (.seq (.seq (.reg [O1 116 .mv 12, O1 117 .mv 6, O1 118 .len 117, O2 119 (.bin .lss) 116 118]) (.cond (.t 119) .skip (.exit 4))) (.seq (.block 5 (.seq (.drw [O1 122 .mv 7, O1 123 .mv 12, O2 124 (.iadr 1) 122 123, O1 125 .ld1 124, O1 126 .mv 125, Og 127 .mv [.t 6] 126 true, Og 128 .mv [.t 12] 126 true, Og 129 (.iadr 1) [.t 127, .t 128] 126 true, Og 130 .ld1 [.t 129] 126 true, Og 131 (.fadr 3) [.t 2] 126 true, Og 132 .ld1 [.t 131] 126 true, Og 133 (.bin .shl) [ci 1, .t 132] 126 true, Og 134 (.bin .sub) [.t 133, ci 1] 126 true, Og 135 (.bin .eql) [.t 130, .t 134] 126 true, Ol 136 .pick [.t 126, .t 135, cb false]] (unB [0, 0, 3, 7, 15, 31, 31, 127, 255, 31, 543, 1567, 3615, 8191, 16383] 0) true true) (.cond (.t 136) (.seq (.reg [Ol 4 .mv [cb true]]) .ret) .skip))) (.reg [O1 120 .mv 12, Ol 121 (.bin .add) [.t 120, ci 1], O1 12 .mv 121])))))) (.seq (.reg [Ol 4 .mv [cb false]]) .ret))))))))
theorem b_spec_GenTakes : Body Try.prog 68 137 c_spec_GenTakes [(.t 4)] := body_mk Try.func68 (by kernel_rfl) (by decide)
def TakesG (g : GenD) (s l : List Int) : Prop := GenOk g ∧ wordOk s l g.letters = true ∧ Lives (ptsG g.states.toNat s l g.edges) (bitL g.start.toNat 31) (2 ^ g.sets.toNat - 1)
def InS (g : GenD) (s l : List Int) (C : List Int) (r : Int) (q i : Nat) : Prop := q < s.length + l.length ∧ i < g.edges.length ∧ (g.edges.getD i default).letter = letN s l q ∧ 0 ≤ r ∧
  C.getD (q * g.states.toNat + (g.edges.getD i default).src.toNat) 0 = r ∧ C.getD (nextN s l q * g.states.toNat + (g.edges.getD i default).dst.toNat) 0 = r
structure TkI (g : GenD) (s l : List Int) (C : List Int) (p j : Nat) (S : List Bool) (M : List Int) : Prop where
  ls : S.length = C.length
  lm : M.length = C.length
  pos : ∀ r, 0 ≤ M.getD r 0 ∧ M.getD r 0 < 2 ^ 31
  sm : ∀ r : Nat, r < C.length → (S.getD r false = true ↔ ∃ q i, Bef p j q i ∧ InS g s l C r q i)
  mb : ∀ r : Nat, r < C.length → ∀ b, (M.getD r 0).toNat.testBit b = true ↔ ∃ q i, Bef p j q i ∧ InS g s l C r q i ∧ (g.edges.getD i default).marks.toNat.testBit b = true
section
variable {g : GenD} {s l : List Int} {C : List Int} {p j : Nat} {S : List Bool} {M : List Int}
theorem bef_zero {q i : Nat} : ¬ Bef 0 0 q i := by unfold Bef; omega
theorem tk_start : TkI g s l C 0 0 (List.replicate C.length false) (List.replicate C.length 0) := by
  have e : ∀ r, (List.replicate C.length (0 : Int)).getD r 0 = 0 := fun r => by
    rw [List.getD_eq_getElem?_getD, List.getElem?_replicate]; split <;> rfl
  have e2 : ∀ r, (List.replicate C.length false).getD r false = false := fun r => by
    rw [List.getD_eq_getElem?_getD, List.getElem?_replicate]; split <;> rfl
  refine ⟨by simp, by simp, fun r => by rw [e]; decide, fun r _ => ?_, fun r _ b => ?_⟩
  · rw [e2]
    exact ⟨fun h => (by cases h), fun ⟨q, i, h, _⟩ => absurd h bef_zero⟩
  · rw [e]
    exact ⟨fun h => (by simp at h), fun ⟨q, i, h, _⟩ => absurd h bef_zero⟩
theorem TkI.next (h : TkI g s l C p j S M) (hj : g.edges.length ≤ j) : TkI g s l C (p + 1) 0 S M := by
  have key : ∀ q i r, InS g s l C r q i → (Bef p j q i ↔ Bef (p + 1) 0 q i) := by
    rintro q i r ⟨_, h2, _⟩
    unfold Bef
    by_cases hq : q = p
    · subst hq; constructor <;> intro <;> omega
    · constructor <;> intro <;> omega
  refine ⟨h.ls, h.lm, h.pos, fun r hr => (h.sm r hr).trans ?_, fun r hr b => (h.mb r hr b).trans ?_⟩
  · exact ⟨fun ⟨q, i, h1, h2⟩ => ⟨q, i, (key q i r h2).1 h1, h2⟩, fun ⟨q, i, h1, h2⟩ => ⟨q, i, (key q i r h2).2 h1, h2⟩⟩
  · exact ⟨fun ⟨q, i, h1, h2, h3⟩ => ⟨q, i, (key q i r h2).1 h1, h2, h3⟩, fun ⟨q, i, h1, h2, h3⟩ => ⟨q, i, (key q i r h2).2 h1, h2, h3⟩⟩
theorem TkI.skip (h : TkI g s l C p j S M) (hn : ∀ r, ¬ InS g s l C r p j) : TkI g s l C p (j + 1) S M := by
  refine ⟨h.ls, h.lm, h.pos, fun r hr => (h.sm r hr).trans ?_, fun r hr b => (h.mb r hr b).trans ?_⟩
  · refine ⟨fun ⟨q, i, h1, h2⟩ => ⟨q, i, bef_succ.2 (.inl h1), h2⟩, fun ⟨q, i, h1, h2⟩ => ⟨q, i, ?_, h2⟩⟩
    rcases bef_succ.1 h1 with h1 | ⟨rfl, rfl⟩
    · exact h1
    · exact absurd h2 (hn r)
  · refine ⟨fun ⟨q, i, h1, h2⟩ => ⟨q, i, bef_succ.2 (.inl h1), h2⟩, fun ⟨q, i, h1, h2, h3⟩ => ⟨q, i, ?_, h2, h3⟩⟩
    rcases bef_succ.1 h1 with h1 | ⟨rfl, rfl⟩
    · exact h1
    · exact absurd h2 (hn r)
theorem TkI.put (h : TkI g s l C p j S M) {z : Nat} (hz : z < C.length) (hin : InS g s l C z p j) {m : Nat} (hm : (g.edges.getD j default).marks.toNat = m) (hml : m < 2 ^ 31) :
    TkI g s l C p (j + 1) (S.set z true) (M.set z (((M.getD z 0).toNat ||| m : Nat) : Int)) := by
  have hp := h.pos z
  have hlt : (M.getD z 0).toNat ||| m < 2 ^ 31 := Nat.or_lt_two_pow (by omega) hml
  have hr : ∀ r : Int, InS g s l C r p j → r = z := fun r ⟨_, _, _, _, h1, _⟩ => by rw [← h1]; exact hin.2.2.2.2.1
  have hls := h.ls
  have hlm := h.lm
  have e1 : ∀ r, (S.set z true).getD r false = if z = r then true else S.getD r false := fun r => by
    rw [getD_setB]
    by_cases h1 : z = r
    · subst h1; rw [if_pos ⟨rfl, by omega⟩, if_pos rfl]
    · rw [if_neg (fun h => h1 h.1), if_neg h1]
  have e2 : ∀ r, (M.set z (((M.getD z 0).toNat ||| m : Nat) : Int)).getD r 0 = if z = r then (((M.getD z 0).toNat ||| m : Nat) : Int) else M.getD r 0 := fun r => by
    rw [Pl.getD_set]
    by_cases h1 : z = r
    · subst h1; rw [if_pos ⟨rfl, by omega⟩, if_pos rfl]
    · rw [if_neg (fun h => h1 h.1), if_neg h1]
  refine ⟨by simpa using hls, by simpa using hlm, fun r => ?_, fun r hrl => ?_, fun r hrl b => ?_⟩
  · rw [e2]; split
    · omega
    · exact h.pos r
  · rw [e1]
    by_cases hzr : z = r
    · subst hzr
      rw [if_pos rfl]
      exact ⟨fun _ => ⟨p, j, bef_succ.2 (.inr ⟨rfl, rfl⟩), hin⟩, fun _ => rfl⟩
    · rw [if_neg hzr, h.sm r hrl]
      refine ⟨fun ⟨q, i, h1, h2⟩ => ⟨q, i, bef_succ.2 (.inl h1), h2⟩, fun ⟨q, i, h1, h2⟩ => ⟨q, i, ?_, h2⟩⟩
      rcases bef_succ.1 h1 with h1 | ⟨rfl, rfl⟩
      · exact h1
      · have := hr _ h2; omega
  · rw [e2]
    by_cases hzr : z = r
    · subst hzr
      rw [if_pos rfl, Int.toNat_natCast, Nat.testBit_or, Bool.or_eq_true, h.mb z hrl]
      constructor
      · rintro (⟨q, i, h1, h2⟩ | h1)
        · exact ⟨q, i, bef_succ.2 (.inl h1), h2⟩
        · exact ⟨p, j, bef_succ.2 (.inr ⟨rfl, rfl⟩), hin, by rw [hm]; exact h1⟩
      · rintro ⟨q, i, h1, h2, h3⟩
        rcases bef_succ.1 h1 with h1 | ⟨rfl, rfl⟩
        · exact .inl ⟨q, i, h1, h2, h3⟩
        · exact .inr (by rw [← hm]; exact h3)
    · rw [if_neg hzr, h.mb r hrl]
      refine ⟨fun ⟨q, i, h1, h2⟩ => ⟨q, i, bef_succ.2 (.inl h1), h2⟩, fun ⟨q, i, h1, h2, h3⟩ => ⟨q, i, ?_, h2, h3⟩⟩
      rcases bef_succ.1 h1 with h1 | ⟨rfl, rfl⟩
      · exact h1
      · have := hr _ h2; omega
end
theorem length_ptsG {n : Nat} {s l : List Int} {es : List GEdgeD} : (ptsG n s l es).length = (s.length + l.length) * n := by simp [ptsG, mkG]
theorem gstart_lt {g : GenD} (hg : GenOk g) : g.start.toNat < 2 ^ g.states.toNat := by
  have hh := hg.1.2.2
  rw [show g.start = ((g.start.toNat : Nat) : Int) by omega] at hh
  exact Int.ofNat_lt.1 (by rw [Int.natCast_pow]; exact hh.2.2)
theorem beg_rch {g : GenD} (hg : GenOk g) {s l : List Int} (hl0 : 0 < l.length) {x : Nat} : Beg g s l x ↔ Rch (PA g s l) (· ∈ bitL g.start.toNat 31) x := by
  rw [beg_iff hg hl0]
  have e : (fun x => x < (s.length + l.length) * g.states.toNat ∧ AtS g (oneS (s.length + l.length) 0 g.start.toNat) x) = (· ∈ bitL g.start.toNat 31) := by
    funext x
    refine propext ?_
    have hs := gstart_lt hg
    have hst := hg.1.2.1
    unfold AtS
    rw [oneS_at, mem_bitL]
    constructor
    · rintro ⟨h1, h2⟩
      split at h2
      · rename_i hq
        have hb := bit_lt hs h2
        have := pt_eq (n := g.states.toNat) (x := x)
        rw [hq.1, Nat.zero_mul, Nat.zero_add] at this
        rw [this] at h2 hb
        exact ⟨by omega, h2⟩
      · simp at h2
    · rintro ⟨h1, h2⟩
      have hb := bit_lt hs h2
      have h3 : x / g.states.toNat = 0 := Nat.div_eq_of_lt hb
      have h4 : x % g.states.toNat = x := Nat.mod_eq_of_lt hb
      rw [if_pos ⟨h3, by omega⟩, h4]
      refine ⟨Nat.lt_of_lt_of_le hb ?_, h2⟩
      have := Nat.mul_le_mul_right g.states.toNat (show 1 ≤ s.length + l.length by omega)
      omega
  rw [e]
theorem edge_ix {g : GenD} {e : GEdgeD} (he : e ∈ g.edges) : ∃ i, i < g.edges.length ∧ g.edges.getD i default = e := by
  obtain ⟨i, hi, rfl⟩ := List.getElem_of_mem he
  exact ⟨i, hi, by rw [List.getD_eq_getElem?_getD, List.getElem?_eq_getElem hi]; rfl⟩
theorem pow_toNat {m k : Int} (h0 : 0 ≤ m) (h : m < 2 ^ k.toNat) : m.toNat < 2 ^ k.toNat := by
  rw [show m = ((m.toNat : Nat) : Int) by omega] at h
  exact Int.ofNat_lt.1 (by rw [Int.natCast_pow]; exact h)
theorem takes_of {g : GenD} (hg : GenOk g) {s l : List Int} (hl0 : 0 < l.length) {C : List Int} (hC : IsComps (PA g s l) (Beg g s l) ((s.length + l.length) * g.states.toNat) C) {S : List Bool} {M : List Int} (h : TkI g s l C (s.length + l.length) 0 S M) :
    (∃ r, r < C.length ∧ S.getD r false = true ∧ M.getD r 0 = 2 ^ g.sets.toNat - 1) ↔ Lives (ptsG g.states.toNat s l g.edges) (bitL g.start.toNat 31) (2 ^ g.sets.toNat - 1) := by
  have hBm := fun p q (h : Beg g s l p) (hm : Mut (PA g s l) p q) => beg_mut hg hl0 p q h hm.1
  have hgin : ∀ i, i < g.edges.length → GIn g (g.edges.getD i default) := fun i hi => gin hg hi
  have hCl := hC.1
  have hps : ∀ r, 0 ≤ M.getD r 0 := fun r => (h.pos r).1
  have hst := hg.1.2.1
  have hpow : ((2 ^ g.sets.toNat - 1 : Nat) : Int) = 2 ^ g.sets.toNat - 1 := by
    have := Nat.two_pow_pos g.sets.toNat
    rw [Int.natCast_sub (by omega), Int.natCast_pow]; rfl
  have hms : ∀ r, r < C.length → (M.getD r 0 = 2 ^ g.sets.toNat - 1 ↔ ∀ b, (2 ^ g.sets.toNat - 1).testBit b = true → (M.getD r 0).toNat.testBit b = true) := fun r hr => by
    rw [← hpow]
    constructor
    · intro he b hb
      rw [he, Int.toNat_natCast]; exact hb
    · intro hb
      have : (M.getD r 0).toNat = 2 ^ g.sets.toNat - 1 := bits_ext fun b => ⟨fun hh => ?_, hb b⟩
      · have := hps r; omega
      · obtain ⟨q, i, _, h2, h3⟩ := (h.mb r hr b).1 hh
        have := hgin i h2.2.1
        unfold GIn at this
        rw [Nat.testBit_two_pow_sub_one]
        exact decide_eq_true (bit_lt (pow_toNat this.2.2.2.1 this.2.2.2.2.2) h3)
  have hpt : ∀ r q i, InS g s l C r q i → q * g.states.toNat + (g.edges.getD i default).src.toNat < (s.length + l.length) * g.states.toNat ∧ nextN s l q * g.states.toNat + (g.edges.getD i default).dst.toNat < (s.length + l.length) * g.states.toNat ∧
      (nextN s l q * g.states.toNat + (g.edges.getD i default).dst.toNat, (g.edges.getD i default).marks) ∈ (ptsG g.states.toNat s l g.edges).getD (q * g.states.toNat + (g.edges.getD i default).src.toNat) [] := by
    rintro r q i ⟨h1, h2, h3, _⟩
    have hi := hgin i h2
    unfold GIn at hi
    refine ⟨pt_lt h1 (by omega), pt_lt (nextN_lt h1 hl0) (by omega), (step_pts hg).2 ?_⟩
    rw [pt_div (by omega), pt_mod (by omega)]
    exact ⟨h1, _, getD_mem' h2, h3, rfl, rfl, rfl⟩
  unfold Lives
  rw [length_ptsG, adj_pts hg]
  constructor
  · rintro ⟨r, hr, h1, h2⟩
    obtain ⟨q, i, _, hin⟩ := (h.sm r hr).1 h1
    obtain ⟨g1, g2, g3⟩ := hpt _ q i hin
    obtain ⟨_, _, _, _, c1, c2⟩ := hin
    have hb := (hC.begun g1).1 (by rw [c1]; omega)
    refine ⟨_, g1, (beg_rch hg hl0).1 hb, ⟨_, g3, (hC.eq g1 g2 hb hBm).1 (c1.trans c2.symm)⟩, fun b hbit => ?_⟩
    obtain ⟨q', i', _, hin', hbit'⟩ := (h.mb r hr b).1 ((hms r hr).1 h2 b hbit)
    obtain ⟨k1, k2, k3⟩ := hpt _ q' i' hin'
    obtain ⟨_, _, _, _, d1, d2⟩ := hin'
    exact ⟨_, _, k3, (hC.eq g1 k1 hb hBm).1 (c1.trans d1.symm), (hC.eq g1 k2 hb hBm).1 (c1.trans d2.symm), hbit'⟩
  · rintro ⟨p, hp, hr, ⟨⟨y, m⟩, hs, hm⟩, hall⟩
    have hb := (beg_rch hg hl0).2 hr
    obtain ⟨z, hz, c1, c2, c3⟩ := (hC.2 p hp).1 hb
    have key : ∀ q y m, (y, m) ∈ (ptsG g.states.toNat s l g.edges).getD q [] → Mut (PA g s l) p q → Mut (PA g s l) p y → ∃ i, InS g s l C z (q / g.states.toNat) i ∧ (g.edges.getD i default).marks = m := by
      intro q y m hst hpq hpy
      obtain ⟨h1, e, he, h2, h3, h4, h5⟩ := (step_pts hg).1 hst
      obtain ⟨i, hi, rfl⟩ := edge_ix he
      have hi' := hgin i hi
      unfold GIn at hi'
      have hql := pt_lt (n := g.states.toNat) (v := q % g.states.toNat) h1 (by omega)
      rw [pt_eq] at hql
      have hyl := pt_lt (n := g.states.toNat) (v := (g.edges.getD i default).dst.toNat) (nextN_lt h1 hl0) (by omega)
      rw [← h4] at hyl
      refine ⟨i, ⟨h1, hi, h2, by omega, ?_, ?_⟩, h5.symm⟩
      · rw [h3, pt_eq, ← (hC.eq hp hql hb hBm).2 hpq]; exact c1
      · rw [← h4, ← (hC.eq hp hyl hb hBm).2 hpy]; exact c1
    have hbef : ∀ q i, q < s.length + l.length → Bef (s.length + l.length) 0 q i := fun q i hq => .inl hq
    refine ⟨z, by omega, (h.sm z (by omega)).2 ?_, (hms z (by omega)).2 fun b hbit => (h.mb z (by omega) b).2 ?_⟩
    · obtain ⟨i, hi, _⟩ := key p y m hs Mut.refl hm
      exact ⟨_, i, hbef _ _ hi.1, hi⟩
    · obtain ⟨q, ⟨y', m'⟩, hs', hpq, hpy, hb'⟩ := hall b hbit
      obtain ⟨i, hi, rfl⟩ := key q y' m' hs' hpq hpy
      exact ⟨_, i, hbef _ _ hi.1, hi, hb'⟩
theorem bools_rep {n : Nat} : List.replicate ((n : Nat) : Int).toNat [AV.bool false] = bools (List.replicate n false) := by simp [bools]
theorem ints_rep0 {n : Nat} : List.replicate ((n : Nat) : Int).toNat [AV.int .i64 0] = ints (List.replicate n 0) := by simp [ints]
theorem let_ok {s l : List Int} {k : Int} (h : wordOk s l k = true) : LetOk s l ∧ s.length ≤ 40 ∧ l.length ≤ 40 ∧ 0 < l.length := by
  unfold wordOk at h
  simp only [Bool.and_eq_true, decide_eq_true_eq] at h
  obtain ⟨⟨⟨⟨h1, h2⟩, h3⟩, h4⟩, h5⟩ := h
  refine ⟨fun p hp => ?_, h2, by omega, by omega⟩
  have key : ∀ (l : List Int), lettersB l k = true → ∀ i, i < l.length → 0 ≤ l.getD i 0 ∧ l.getD i 0 < 8 := fun l hl i hi => by
    simp only [lettersB, List.all_eq_true, decide_eq_true_eq] at hl
    have hm : l.getD i 0 ∈ l := by rw [List.getD_eq_getElem?_getD, List.getElem?_eq_getElem hi]; exact List.getElem_mem hi
    have := hl _ hm
    omega
  unfold letN
  split
  · rename_i hh; exact key s h4 p hh
  · exact key l h5 _ (by omega)
theorem RComps_eq {xs : List AV} {g : GenD} {s l : List Int} (hx : xs = [.agg (genRow g), wordV s l]) (hg : GenOk g) (h0 : 0 < g.states) (hw : LetOk s l) (h1 : s.length ≤ 100) (h2 : l.length ≤ 100) (h3 : 0 < l.length) :
  RComps xs (.ref 0 0 ((s.length + l.length) * g.states.toNat)) [.arr 1 (ints (compsL (PA g s l) (Beg g s l) ((s.length + l.length) * g.states.toNat)))] := ⟨g, s, l, hx, hg, h0, hw, h1, h2, h3, rfl, rfl⟩
def RTakesG (xs : List AV) (r : AV) (objs : List AObj) : Prop := ∃ (g : GenD) (s l : List Int) (b : Bool), xs = [.agg (genRow g), wordV s l] ∧ (b = true ↔ TakesG g s l) ∧ r = .bool b ∧ objs = []
set_option maxHeartbeats 8000000 in
theorem s_spec_GenTakes : PureSound Try.prog 68 RTakesG := by
  have hR : Rely Try.prog (ctxOf [(69, .pure RGenOk), (47, .pure RWordOk), (99, .pure RComps), (91, .pure RPlacesS), (93, .pure RL3At), (92, .pure RAfter)]) :=
    rely_cons b_spec_GenOk.has s_spec_GenOk (rely_cons b_spec_WordOk.has s_spec_WordOk (rely_cons b_spec_l6Comps.has s_spec_l6Comps (rely_cons b_spec_l6Places.has s_spec_l6Places (rely_cons b_spec_l3At.has s_spec_l3At (rely_cons b_spec_l6After.has s_spec_l6After (rely_nil mixed))))))
  refine pure_of_aw b_spec_GenTakes ?_
  rintro xs r objs ⟨g, s, l, b, rfl, hb0, rfl, rfl⟩ -
  refine ⟨by simp, vc2_sound hR _ _ _ _ _ ?_⟩
  have hno : ¬ TakesG g s l → b = false := fun h => Bool.eq_false_iff.2 fun hb => h (hb0.1 hb)
  by_cases hg : GenOk g
  rotate_left
  · obtain rfl := hno fun h => hg h.1
    conv => whnf
    repeat' ((first | contradiction | (refine And.intro (fun hb => ?_) (fun hb => ?_) <;> first | contradiction | ((try simp only [SB, reduceCtorEq] at hb); try (exfalso; first | contradiction | omega))) | refine G2 ?_ | rw [ints_at (by omega)] | rw [ints_at0 (by omega)] | rw [ints_at' (by omega) (by omega)] | refine G1 ?_ | refine ⟨_, _, RGenOk_mk, ?_⟩ | refine ⟨_, _, RWordOk_mk, ?_⟩ | fail) <;> conv => whnf)
    refine ⟨.inl rfl, ?_⟩
    conv => whnf
    refine ⟨[], ⟨rfl, trivial⟩, ?_, rfl, rfl⟩
    conv => whnf
    left
    conv => lhs; whnf
  cases hw : wordOk s l g.letters
  · obtain rfl := hno fun h => by have := h.2.1; rw [hw] at this; cases this
    conv => whnf
    repeat' ((first | contradiction | (refine And.intro (fun hb => ?_) (fun hb => ?_) <;> first | contradiction | ((try simp only [SB, reduceCtorEq] at hb); try (exfalso; first | contradiction | omega))) | refine G2 ?_ | rw [ints_at (by omega)] | rw [ints_at0 (by omega)] | rw [ints_at' (by omega) (by omega)] | refine G1 ?_ | refine ⟨_, _, RGenOk_mk, ?_⟩ | refine ⟨_, _, ⟨s, l, g.letters, rfl, congrArg AV.bool hw.symm, rfl⟩, ?_⟩ | fail) <;> conv => whnf)
    refine ⟨.inl rfl, ?_⟩
    conv => whnf
    refine ⟨[], ⟨rfl, trivial⟩, ?_, rfl, rfl⟩
    conv => whnf
    left
    conv => lhs; whnf
  obtain ⟨hlo, hs, hl, hl0⟩ := let_ok hw
  by_cases h0 : g.states = 0
  · obtain rfl := hno fun h => by
      obtain ⟨_, _, p, hp, _⟩ := h
      rw [length_ptsG, h0] at hp
      simp at hp
    conv => whnf
    repeat' ((first | contradiction | (refine And.intro (fun hb => ?_) (fun hb => ?_) <;> first | contradiction | ((try simp only [SB, reduceCtorEq] at hb); try (exfalso; first | contradiction | omega))) | refine G2 ?_ | rw [ints_at (by omega)] | rw [ints_at0 (by omega)] | rw [ints_at' (by omega) (by omega)] | refine G1 ?_ | refine ⟨_, _, RGenOk_mk, ?_⟩ | refine ⟨_, _, ⟨s, l, g.letters, rfl, congrArg AV.bool hw.symm, rfl⟩, ?_⟩ | fail) <;> conv => whnf)
    refine ⟨.inl rfl, ?_⟩
    conv => whnf
    refine ⟨[], ⟨rfl, trivial⟩, ?_, rfl, rfl⟩
    conv => whnf
    left
    conv => lhs; whnf
  have hst := hg.1.2.1
  have hNN : (s.length + l.length) * g.states.toNat ≤ 80 * 31 := Nat.mul_le_mul (by omega) (by omega)
  have hC := isComps_L (PA g s l) (Beg g s l) ((s.length + l.length) * g.states.toNat)
  have hto := fun S M h => takes_of hg hl0 hC (S := S) (M := M) h
  have hrc : ∀ xs, xs = [.agg (genRow g), wordV s l] → RComps xs (.ref 0 0 ((s.length + l.length) * g.states.toNat)) [.arr 1 (ints (compsL (PA g s l) (Beg g s l) ((s.length + l.length) * g.states.toNat)))] := fun xs hx => RComps_eq hx hg (by omega) hlo (by omega) (by omega) hl0
  have hCl := hC.1
  have hel := length_gedgeRows g.edges
  have hel2 := hg.2.2.1
  have hptl : ∀ p v, p < s.length + l.length → v < g.states.toNat → p * g.states.toNat + v < (s.length + l.length) * g.states.toNat := fun p v h1 h2 => pt_lt h1 h2
  generalize hCC : compsL (PA g s l) (Beg g s l) ((s.length + l.length) * g.states.toNat) = C at *
  generalize hM : (s.length + l.length) * g.states.toNat = M at *
  have hCi := (length_ints C).trans hCl
  conv => whnf
  repeat' ((first | contradiction | (refine And.intro (fun hb => ?_) (fun hb => ?_) <;> first | contradiction | ((try simp only [SB, reduceCtorEq] at hb); try (exfalso; first | contradiction | omega))) | refine G2 ?_ | rw [ints_at (by omega)] | rw [ints_at0 (by omega)] | rw [ints_at' (by omega) (by omega)] | refine G1 ?_ | refine ⟨_, _, RGenOk_mk, ?_⟩ | refine ⟨_, _, ⟨s, l, g.letters, rfl, congrArg AV.bool hw.symm, rfl⟩, ?_⟩ | refine ⟨_, _, hrc _ rfl, ?_⟩ | fail) <;> conv => whnf)
  clear hb
  refine Lp.intro (α := Nat × List Bool × List Int) (fun c => TkI g s l C c.1 0 c.2.1 c.2.2 ∧ c.1 ≤ s.length + l.length) (fun c => s.length + l.length - c.1)
    (fun c => [(2, .rptr (genRow g) 0), (3, wordP s l), (5, .val (ints C)), (6, .ref 0 0 M), (7, .ref 1 0 M), (8, .int .i64 c.1)]) (fun c => [some (.arr 1 (ints c.2.2)), some (.arr 1 (bools c.2.1))]) ?_ ?_
  · refine ⟨(0, List.replicate C.length false, List.replicate C.length 0), ⟨tk_start, Nat.zero_le _⟩, [some 3, some 4], rfl, rfl, And.intro (And.intro rfl ?_) (And.intro (And.intro rfl ?_) trivial), ?_⟩
    · rw [hCl]; exact ints_rep0
    · rw [hCl]; exact bools_rep
    · exact ⟨.inr rfl, .inr rfl, .inr (snap_all rfl hCi), rfl, rfl, .inl rfl, trivial⟩
  rintro ⟨p, S, MM⟩ ⟨hI, hp⟩
  dsimp only at hI hp ⊢
  refine vc2_sound hR _ _ _ _ _ ?_
  by_cases hlt : p < s.length + l.length
  · conv => whnf
    repeat' ((first | contradiction | (refine And.intro (fun hb => ?_) (fun hb => ?_) <;> first | contradiction | ((try simp only [SB, reduceCtorEq] at hb); try (exfalso; first | contradiction | omega))) | refine G2 ?_ | rw [ints_at (by omega)] | rw [ints_at0 (by omega)] | rw [ints_at' (by omega) (by omega)] | refine G1 ?_ | refine ⟨_, _, RPlacesS_eq rfl (by omega) (by omega), ?_⟩ | fail) <;> conv => whnf)
    refine Lp.intro (α := Nat × List Bool × List Int) (fun c => TkI g s l C p c.1 c.2.1 c.2.2 ∧ c.1 ≤ g.edges.length) (fun c => g.edges.length - c.1)
      (fun c => [(2, .rptr (genRow g) 0), (3, wordP s l), (5, .val (ints C)), (6, .ref 0 0 M), (7, .ref 1 0 M), (8, .int .i64 p), (9, .int .i64 c.1)]) (fun c => [some (.arr 1 (ints c.2.2)), some (.arr 1 (bools c.2.1))]) ?_ ?_
    · refine ⟨(0, S, MM), ⟨hI, Nat.zero_le _⟩, [some 0, some 1], rfl, rfl, And.intro (And.intro rfl rfl) (And.intro (And.intro rfl rfl) trivial), ?_⟩
      exact ⟨.inl rfl, .inl rfl, .inl rfl, rfl, rfl, .inl rfl, .inl rfl, trivial⟩
    clear hI MM S
    rintro ⟨i, S, MM⟩ ⟨hI, hi⟩
    dsimp only at hI hi ⊢
    have hSl := hI.ls.trans hCl
    have hMl := hI.lm.trans hCl
    have hMi := (length_ints MM).trans hMl
    have hSi := (length_bools S).trans hSl
    refine vc2_sound hR _ _ _ _ _ ?_
    by_cases hil : i < g.edges.length
    · have hin := gin hg hil
      have hat := gedge_at hil
      have hnx := nextN_lt hlt hl0
      unfold GIn at hin
      have hXl := hptl p (g.edges.getD i default).src.toNat hlt (by omega)
      have hYl := hptl (nextN s l p) (g.edges.getD i default).dst.toNat hnx (by omega)
      have hX : IntKind.i64.wrap (((p : Nat) : Int) * g.states) = ((p * g.states.toNat : Nat) : Int) := by
        rw [show ((p : Nat) : Int) * g.states = ((p * g.states.toNat : Nat) : Int) by rw [Int.natCast_mul, Int.toNat_of_nonneg hst.1]]
        exact IntWalk.i64_in _ (by omega)
      have hY : IntKind.i64.wrap (((nextN s l p : Nat) : Int) * g.states) = ((nextN s l p * g.states.toNat : Nat) : Int) := by
        rw [show ((nextN s l p : Nat) : Int) * g.states = ((nextN s l p * g.states.toNat : Nat) : Int) by rw [Int.natCast_mul, Int.toNat_of_nonneg hst.1]]
        exact IntWalk.i64_in _ (by omega)
      have hskip : ∀ r, InS g s l C r p i → (g.edges.getD i default).letter = letN s l p ∧ 0 ≤ C.getD (p * g.states.toNat + (g.edges.getD i default).src.toNat) 0 ∧
        C.getD (p * g.states.toNat + (g.edges.getD i default).src.toNat) 0 = C.getD (nextN s l p * g.states.toNat + (g.edges.getD i default).dst.toNat) 0 := fun r ⟨_, _, h3, h4, h5, h6⟩ => ⟨h3, by omega, h5.trans h6.symm⟩
      have hput : ∀ z : Nat, z < C.length → C.getD (p * g.states.toNat + (g.edges.getD i default).src.toNat) 0 = z → (g.edges.getD i default).letter = letN s l p →
        C.getD (p * g.states.toNat + (g.edges.getD i default).src.toNat) 0 = C.getD (nextN s l p * g.states.toNat + (g.edges.getD i default).dst.toNat) 0 → TkI g s l C p (i + 1) (S.set z true) (MM.set z (((MM.getD z 0).toNat ||| (g.edges.getD i default).marks.toNat : Nat) : Int)) :=
        fun z hz h1 h2 h3 => hI.put hz ⟨hlt, hil, h2, by omega, h1, by omega⟩ rfl (by omega)
      have hkeep : (∀ r, ¬ InS g s l C r p i) → TkI g s l C p (i + 1) S MM := fun h => hI.skip h
      have hpos := hI.pos
      have hCX : ∀ X, X < M → C.getD X 0 < 0 ∨ ∃ z : Nat, z < M ∧ C.getD X 0 = z := fun X hX => by
        by_cases hbx : Beg g s l X
        · obtain ⟨z, h1, h2, _⟩ := (hC.2 X hX).1 hbx
          exact .inr ⟨z, h1, h2⟩
        · have := (hC.2 X hX).2 hbx
          exact .inl (by omega)
      have hcx := hCX _ hXl
      generalize g.edges.getD i default = e at *
      obtain ⟨X, hXX⟩ : ∃ X, p * g.states.toNat + e.src.toNat = X := ⟨_, rfl⟩
      obtain ⟨Y, hYY⟩ : ∃ Y, nextN s l p * g.states.toNat + e.dst.toNat = Y := ⟨_, rfl⟩
      rw [hXX] at hXl hskip hput hcx
      rw [hYY] at hYl hskip hput
      have hXi : ((p * g.states.toNat : Nat) : Int) + e.src = ((X : Nat) : Int) := by omega
      have hYi : ((nextN s l p * g.states.toNat : Nat) : Int) + e.dst = ((Y : Nat) : Int) := by omega
      generalize p * g.states.toNat = pn at *
      generalize nextN s l p * g.states.toNat = qn at *
      have aX := ints_at (xs := C) (i := X) (by omega)
      have aY := ints_at (xs := C) (i := Y) (by omega)
      rcases hcx with hneg | ⟨z, hz, hzz⟩
      · generalize C.getD X 0 = cx at *
        conv => whnf
        repeat' ((first | contradiction | (refine And.intro (fun hb => ?_) (fun hb => ?_) <;> first | contradiction | ((try simp only [SB, reduceCtorEq] at hb); try (exfalso; first | contradiction | omega))) | rw [hat] | rw [hXi] | rw [aX] | refine G2 ?_ | rw [ints_at (by omega)] | rw [ints_at0 (by omega)] | rw [ints_at' (by omega) (by omega)] | refine G1 ?_ | refine ⟨_, hX, ?_⟩ | refine ⟨_, _, RL3At_eq rfl (by omega) (by omega) hlt, ?_⟩ | fail) <;> conv => whnf)
        all_goals
          refine ⟨(i + 1, S, MM), ⟨hkeep fun r hr => ?_, hil⟩, by dsimp only; omega, [some 0, some 1], rfl, rfl, And.intro (And.intro rfl rfl) (And.intro (And.intro rfl rfl) trivial), ?_⟩
          · have := hskip r hr; omega
          · exact ⟨.inl rfl, .inl rfl, .inl rfl, rfl, rfl, .inl rfl, .inl rfl, trivial⟩
      · rw [hzz] at aX hput hskip
        generalize C.getD Y 0 = cy at *
        have hor := or_val (X := (MM.getD z 0).toNat) (Y := e.marks.toNat) (by have := hpos z; omega) (by omega)
        rw [Int.toNat_of_nonneg (hpos z).1, Int.toNat_of_nonneg hin.2.2.2.1] at hor
        have aM := ints_at0 (xs := MM) (i := z) (by omega)
        have aS := bools_at0 (l := S) (i := z) (by omega)
        conv => whnf
        repeat' ((first | contradiction | (refine And.intro (fun hb => ?_) (fun hb => ?_) <;> first | contradiction | ((try simp only [SB, reduceCtorEq] at hb); try (exfalso; first | contradiction | omega))) | rw [hat] | rw [hXi] | rw [hYi] | rw [aX] | rw [aY] | rw [aM] | rw [aS] | refine G2 ?_ | rw [ints_at (by omega)] | rw [ints_at0 (by omega)] | rw [ints_at' (by omega) (by omega)] | refine G1 ?_ | refine ⟨_, hX, ?_⟩ | refine ⟨_, hY, ?_⟩ | refine ⟨_, _, RL3At_eq rfl (by omega) (by omega) hlt, ?_⟩ | refine ⟨_, _, RAfter_eq rfl (by omega) (by omega) hlt, ?_⟩ | fail) <;> conv => whnf)
        · refine ⟨(i + 1, S.set z true, _), ⟨hput z (by omega) rfl (by assumption) (by assumption), hil⟩, by dsimp only; omega, [some 0, some 1], rfl, rfl, And.intro (And.intro rfl ?_) (And.intro (And.intro rfl bools_set) trivial), ?_⟩
          · rw [← ints_set]
            exact congrArg (fun v => (ints MM).set (0 + ((z : Nat) : Int).toNat) [AV.int .i64 v]) hor
          · exact ⟨.inl rfl, .inl rfl, .inl rfl, rfl, rfl, .inl rfl, .inl rfl, trivial⟩
        all_goals
          refine ⟨(i + 1, S, MM), ⟨hkeep fun r hr => ?_, hil⟩, by dsimp only; omega, [some 0, some 1], rfl, rfl, And.intro (And.intro rfl rfl) (And.intro (And.intro rfl rfl) trivial), ?_⟩
          · have := hskip r hr; omega
          · exact ⟨.inl rfl, .inl rfl, .inl rfl, rfl, rfl, .inl rfl, .inl rfl, trivial⟩
    · conv => whnf
      repeat' ((first | contradiction | (refine And.intro (fun hb => ?_) (fun hb => ?_) <;> first | contradiction | ((try simp only [SB, reduceCtorEq] at hb); try (exfalso; first | contradiction | omega))) | refine G2 ?_ | rw [ints_at (by omega)] | rw [ints_at0 (by omega)] | rw [ints_at' (by omega) (by omega)] | refine G1 ?_ | fail) <;> conv => whnf)
      refine ⟨(p + 1, S, MM), ⟨hI.next (by omega), hlt⟩, by dsimp only; omega, [some 0, some 1], rfl, rfl, And.intro (And.intro rfl rfl) (And.intro (And.intro rfl rfl) trivial), ?_⟩
      exact ⟨.inl rfl, .inl rfl, .inl rfl, rfl, rfl, .inl rfl, trivial⟩
  · obtain rfl : p = s.length + l.length := by omega
    have hSl := hI.ls.trans hCl
    have hMl := hI.lm.trans hCl
    have hMi := (length_ints MM).trans hMl
    have hSi := (length_bools S).trans hSl
    have hfin := hto _ _ hI
    have hsets := hg.2.1
    conv => whnf
    repeat' ((first | contradiction | (refine And.intro (fun hb => ?_) (fun hb => ?_) <;> first | contradiction | ((try simp only [SB, reduceCtorEq] at hb); try (exfalso; first | contradiction | omega))) | refine G2 ?_ | rw [ints_at (by omega)] | rw [ints_at0 (by omega)] | rw [ints_at' (by omega) (by omega)] | refine G1 ?_ | refine ⟨_, _, RPlacesS_eq rfl (by omega) (by omega), ?_⟩ | fail) <;> conv => whnf)
    refine Lp.intro (α := Nat) (fun r => r ≤ M ∧ ∀ k, k < r → ¬ (S.getD k false = true ∧ MM.getD k 0 = 2 ^ g.sets.toNat - 1)) (fun r => M - r)
      (fun r => [(2, .rptr (genRow g) 0), (6, .ref 0 0 M), (7, .ref 1 0 M), (12, .int .i64 r)]) (fun c => [some (.arr 1 (ints MM)), some (.arr 1 (bools S))]) ?_ ?_
    · refine ⟨0, ⟨Nat.zero_le _, fun k hk => by omega⟩, [some 0, some 1], rfl, rfl, And.intro (And.intro rfl rfl) (And.intro (And.intro rfl rfl) trivial), ?_⟩
      exact ⟨.inl rfl, rfl, rfl, .inl rfl, trivial⟩
    rintro r ⟨hr, hall⟩
    refine vc2_sound hR _ _ _ _ _ ?_
    by_cases hrl : r < M
    · have aM := ints_at0 (xs := MM) (i := r) (by omega)
      have aS := bools_at0 (l := S) (i := r) (by omega)
      conv => whnf
      repeat' ((first | contradiction | (refine And.intro (fun hb => ?_) (fun hb => ?_) <;> first | contradiction | ((try simp only [SB, reduceCtorEq] at hb); try (exfalso; first | contradiction | omega))) | rw [aM] | rw [aS] | refine G2 ?_ | rw [ints_at (by omega)] | rw [ints_at0 (by omega)] | rw [ints_at' (by omega) (by omega)] | refine G1 ?_ | refine ⟨_, mask_in (by omega) (by omega), ?_⟩ | fail) <;> conv => whnf)
      · refine ⟨.inl rfl, ?_⟩
        conv => whnf
        refine ⟨[], ⟨rfl, trivial⟩, ?_, rfl, rfl⟩
        conv => whnf
        left
        conv => lhs; whnf
        refine congrArg AV.bool (Eq.symm (hb0.2 ⟨hg, hw, hfin.1 ⟨r, by omega, ?_, ?_⟩⟩)) <;> assumption
      all_goals
        refine ⟨r + 1, ⟨hrl, fun k hk => ?_⟩, by omega, [some 0, some 1], rfl, rfl, And.intro (And.intro rfl rfl) (And.intro (And.intro rfl rfl) trivial), ?_⟩
        · by_cases hkr : k = r
          · subst hkr; intro hh; simp_all
          · exact hall k (by omega)
        · exact ⟨.inl rfl, rfl, rfl, .inl rfl, trivial⟩
    · conv => whnf
      repeat' ((first | contradiction | (refine And.intro (fun hb => ?_) (fun hb => ?_) <;> first | contradiction | ((try simp only [SB, reduceCtorEq] at hb); try (exfalso; first | contradiction | omega))) | refine G2 ?_ | rw [ints_at (by omega)] | rw [ints_at0 (by omega)] | rw [ints_at' (by omega) (by omega)] | refine G1 ?_ | fail) <;> conv => whnf)
      refine ⟨.inl rfl, ?_⟩
      conv => whnf
      refine ⟨[], ⟨rfl, trivial⟩, ?_, rfl, rfl⟩
      conv => whnf
      left
      conv => lhs; whnf
      refine congrArg AV.bool (Eq.symm (hno fun ht => ?_))
      obtain ⟨k, h1, h2, h3⟩ := hfin.2 ht.2.2
      exact hall k (by omega) ⟨h2, h3⟩
def c_spec_AutoTakes : ICode := (.seq (.reg [O1 2 (.box 4) 0, O1 3 (.box 2) 1, Ol 4 .mv [cb false]]) (.seq (.drw [O1 5 (.ldn 4) 2, O1 6 (.call 38) 5, O1 7 .mv 6, Og 8 (.ldn 4) [.t 2] 7 true, Og 9 (.call 98) [.t 8] 7 true, Og 10 (.ldn 2) [.t 3] 7 true, Og 11 (.call 68) [.t 9, .t 10] 7 true, Ol 12 .pick [.t 7, .t 11, cb false], O1 4 .mv 12] (unB [0, 1, 3, 7, 15, 7, 63, 127, 255] 0) true true) .ret))
theorem b_spec_AutoTakes : Body Try.prog 40 13 c_spec_AutoTakes [(.t 4)] := body_mk Try.func40 (by kernel_rfl) (by decide)
def c_impl_AutoTakes : ICode := (.seq (.reg [O1 2 (.box 4) 0, O1 3 (.box 2) 1, Ol 4 .mv [cb false]]) (.seq (.drw [O1 5 (.ldn 4) 2, O1 6 (.call 70) 5, O1 7 .mv 6, Og 8 (.ldn 2) [.t 3] 7 true, Og 9 (.fadr 0) [.t 2] 7 true, Og 10 .ld1 [.t 9] 7 true, Og 11 (.call 85) [.t 8, .t 10] 7 true, Ol 12 .pick [.t 7, .t 11, cb false], O1 13 .mv 12, Og 14 (.fadr 1) [.t 2] 13 true, Og 15 .ld1 [.t 14] 13 true, Og 16 (.ldn 4) [.t 2] 13 true, Og 17 (.call 102) [.t 16] 13 true, Og 18 (.fld1 4) [.t 17] 13 true, Og 19 (.ldn 2) [.t 3] 13 true, Og 20 (.call 101) [.t 15, .t 18, .t 19] 13 true, Og 21 (.fadr 2) [.t 2] 13 true, Og 22 .ld1 [.t 21] 13 true, Og 23 (.call 80) [.t 22] 13 true, Og 24 (.call 118) [.t 20, .t 23, ci 1] 13 true, Ol 25 .pick [.t 13, .t 24, cb false], O1 4 .mv 25] (unB [0, 1, 3, 7, 7, 23, 63, 127, 255, 511, 1023, 511, 2559, 6655, 511, 32767, 511, 66047, 262143, 524287, 1048575, 2097151] 0) true true) .ret))
theorem b_impl_AutoTakes : Body Try.prog 39 26 c_impl_AutoTakes [(.t 4)] := body_mk Try.func39 (by kernel_rfl) (by decide)
def TakesA (a : AutoD) (s l : List Int) : Prop := AutoOk a ∧ TakesG (genOfD a) s l
theorem snap_gen {h : Heap} {o : Nat} {g : GenD} (ho : h o = some (.arr 4 (gedgeRows g.edges))) : (AV.agg (genRef o g)).snap h = .agg (genRow g) :=
  snap_agg (cells_cons rfl (cells_cons rfl (cells_cons rfl (cells_cons rfl (cells_cons (snap1_all ho (length_gedgeRows _)) rfl)))))
theorem snap_gen2 {h h2 : Heap} {o : Nat} {g : GenD} (ho : h2 o = some (.arr 4 (gedgeRows g.edges))) : (AV.agg ((genRef o g).map (AV.snap1 h2))).snap h = .agg (genRow g) :=
  snap_agg (cells_cons rfl (cells_cons rfl (cells_cons rfl (cells_cons rfl (cells_cons (snap1_all2 ho (length_gedgeRows _)) rfl)))))
theorem snap_gv {g : GenD} : AV.snap1 (objsH [AObj.arr 4 (gedgeRows g.edges)]) (AV.ref 0 0 g.edges.length) = .val (gedgeRows g.edges) := snap1_all rfl (length_gedgeRows _)
theorem snapT_ints {l : List Int} {n : Nat} (h : (ints l).length = n) : AV.snapT (objsH [AObj.arr 1 (ints l)]) (AV.ref 0 0 n) = .val (ints l) := by
  show AV.snap (objsH [AObj.arr 1 (ints l)]) (AV.ref 0 0 n) = .val (ints l)
  exact snap_all rfl h
theorem snap_gr {h : Heap} {G : GraphD} {n m : Nat} (hn : G.length = n) : (AV.rptr (List.map (AV.snap1 (objsH [gBox 1 m, gNst G])) [AV.ref 1 0 n]) 0).snap h = .rptr [.val (gRows G)] 0 := by
  subst hn
  have e := thaw_g G
  have hl : (gOwns G).length = G.length := by simp [gOwns]
  have e1 : AV.snap1 (objsH [gBox 1 m, gNst G]) (AV.ref 1 0 G.length) = .val (gRows G) := by
    have e0 : objsH [gBox 1 m, gNst G] 1 = some (gNst G) := rfl
    simp only [AV.snap1, e0]
    rw [if_pos (by omega)]
    unfold sub
    rw [List.drop_zero, List.take_of_length_le (by omega), e]
  show AV.rptr (List.map (AV.snap1 (objsH [gBox 1 m, gNst G])) [AV.ref 1 0 G.length]) 0 = _
  rw [List.map_cons, List.map_nil, e1]
theorem RTakesG_eq {xs : List AV} {g : GenD} {s l : List Int} {b : Bool} (hx : xs = [.agg (genRow g), wordV s l]) (hb : b = true ↔ TakesG g s l) : RTakesG xs (.bool b) [] := ⟨g, s, l, b, hx, hb, rfl, rfl⟩
def RTakesA (xs : List AV) (r : AV) (objs : List AObj) : Prop := ∃ (a : AutoD) (s l : List Int) (b : Bool), xs = [.agg (autoRow a), wordV s l] ∧ (b = true ↔ TakesA a s l) ∧ r = .bool b ∧ objs = []
set_option maxHeartbeats 2000000 in
theorem s_spec_AutoTakes : PureSound Try.prog 40 RTakesA := by
  have hR : Rely Try.prog (ctxOf [(38, .pure RAutoOk), (98, .pure RGenOf), (68, .pure RTakesG)]) :=
    rely_cons b_spec_AutoOk.has s_spec_AutoOk (rely_cons b_spec_GenOf.has s_spec_GenOf (rely_cons b_spec_GenTakes.has s_spec_GenTakes (rely_nil mixed)))
  refine pure_of_aw b_spec_AutoTakes ?_
  rintro xs r objs ⟨a, s, l, b, rfl, hb0, rfl, rfl⟩ -
  refine ⟨by simp, vc2_sound hR _ _ _ _ _ ?_⟩
  by_cases ha : AutoOk a
  · have hb1 : b = true ↔ TakesG (genOfD a) s l := hb0.trans ⟨fun h => h.2, fun h => ⟨ha, h⟩⟩
    cases b
    all_goals
      conv => whnf
      repeat' ((first | contradiction | (refine And.intro (fun hb => ?_) (fun hb => ?_) <;> first | contradiction | ((try simp only [SB, reduceCtorEq] at hb); try (exfalso; first | contradiction | omega))) | refine G2 ?_ | rw [ints_at (by omega)] | rw [ints_at0 (by omega)] | rw [ints_at' (by omega) (by omega)] | refine G1 ?_ | refine ⟨_, _, RAutoOk_mk, ?_⟩ | refine ⟨_, _, RGenOf_eq rfl ha, ?_⟩ | refine ⟨_, _, RTakesG_eq (args_cons (snap_gen2 rfl) (args_cons rfl rfl)) hb1, ?_⟩ | fail) <;> conv => whnf)
      refine ⟨.inl rfl, ?_⟩
      conv => whnf
      refine ⟨[], ⟨rfl, trivial⟩, ?_, rfl, rfl⟩
      conv => whnf
      left
      conv => lhs; whnf
  · obtain rfl : b = false := Bool.eq_false_iff.2 fun h => ha (hb0.1 h).1
    conv => whnf
    repeat' ((first | contradiction | (refine And.intro (fun hb => ?_) (fun hb => ?_) <;> first | contradiction | ((try simp only [SB, reduceCtorEq] at hb); try (exfalso; first | contradiction | omega))) | refine G2 ?_ | rw [ints_at (by omega)] | rw [ints_at0 (by omega)] | rw [ints_at' (by omega) (by omega)] | refine G1 ?_ | refine ⟨_, _, RAutoOk_mk, ?_⟩ | fail) <;> conv => whnf)
    refine ⟨.inl rfl, ?_⟩
    conv => whnf
    refine ⟨[], ⟨rfl, trivial⟩, ?_, rfl, rfl⟩
    conv => whnf
    left
    conv => lhs; whnf
theorem gok_pts {g : GenD} (hg : GenOk g) {s l : List Int} (hl0 : 0 < l.length) : GOk (ptsG g.states.toNat s l g.edges) := by
  rintro p ⟨y, m⟩ hs
  rw [length_ptsG]
  obtain ⟨h1, e, he, h2, h3, h4, h5⟩ := (step_pts hg).1 hs
  have hi := gmem hg he
  unfold GIn at hi
  show y < _
  rw [h4]
  exact pt_lt (nextN_lt h1 hl0) (by omega)
theorem marks_pts {g : GenD} (hg : GenOk g) {s l : List Int} : MarksOk (ptsG g.states.toNat s l g.edges) := by
  rintro p ⟨y, m⟩ hs
  obtain ⟨h1, e, he, h2, h3, h4, h5⟩ := (step_pts hg).1 hs
  have hi := gmem hg he
  unfold GIn at hi
  subst h5
  show 0 ≤ e.marks ∧ e.marks < 2 ^ 31
  omega
theorem steps_pts {g : GenD} (hg : GenOk g) {s l : List Int} (h1 : s.length ≤ 40) (h2 : l.length ≤ 40) : steps (ptsG g.states.toNat s l g.edges) ≤ 1000000000 := by
  have hN : (s.length + l.length) * g.states.toNat ≤ 80 * 31 := Nat.mul_le_mul (by omega) (by have := hg.1.2.1; omega)
  have h := steps_mkG (n := (s.length + l.length) * g.states.toNat) (l := ptAll g.states.toNat s l g.edges (s.length + l.length))
  have h3 := ptAll_len (n := g.states.toNat) (s := s) (l := l) (es := g.edges) (s.length + l.length)
  have h4 : (s.length + l.length) * g.edges.length ≤ 80 * 2000 := Nat.mul_le_mul (by omega) hg.2.2.1
  have h5 : (s.length + l.length) * g.states.toNat * (ptAll g.states.toNat s l g.edges (s.length + l.length)).length ≤ (80 * 31) * (80 * 2000) := Nat.mul_le_mul hN (by omega)
  unfold ptsG
  omega
theorem start_pts {g : GenD} (hg : GenOk g) {s l : List Int} (hl0 : 0 < l.length) : ∀ p ∈ bitL g.start.toNat 31, p < (ptsG g.states.toNat s l g.edges).length := by
  intro p hp
  have hb := bit_lt (gstart_lt hg) (mem_bitL.1 hp).2
  rw [length_ptsG]
  have := Nat.mul_le_mul_right g.states.toNat (show 1 ≤ s.length + l.length by omega)
  omega
theorem RPoints_eq {xs : List AV} {n : Int} {es : List GEdgeD} {s l : List Int} (hx : xs = [.int .i64 n, .val (gedgeRows es), wordV s l]) (h0 : 0 ≤ n) (h1 : n ≤ 64) (h2 : es.length ≤ 2000) (h3 : EdgesIn n.toNat es) (h4 : s.length ≤ 100) (h5 : l.length ≤ 100) (h6 : 0 < l.length) :
    RPoints xs (.ptr 0 0 0) [gBox 1 ((s.length + l.length) * n.toNat), gNst (ptsG n.toNat s l es)] := ⟨n.toNat, es, s, l, by rw [hx, Int.toNat_of_nonneg h0], by omega, h2, h3, h4, h5, h6, rfl, rfl⟩
theorem edges_in {g : GenD} (hg : GenOk g) : EdgesIn g.states.toNat g.edges := fun i hi => by
  have := gin hg hi
  unfold GIn at this
  omega
theorem RLives_eq {xs : List AV} {G : GraphD} {src : List Nat} {all : Nat} {b : Bool} (hx : xs = [.rptr [.val (gRows G)] 0, .val (ints (natsI src)), .int .i64 ((all : Nat) : Int)]) (h1 : GOk G) (h2 : MarksOk G) (h3 : G.length ≤ 100000) (h4 : steps G ≤ 1000000000)
    (h5 : ∀ p ∈ src, p < G.length) (h6 : src.length ≤ 100000) (h7 : all < 2 ^ 31) (hb : b = true ↔ Lives G src all) : RLives xs (.bool b) [] := ⟨G, src, all, b, hx, h1, h2, h3, h4, h5, h6, h7, hb, rfl, rfl⟩
theorem RSetList_eq {xs : List AV} {X : Int} (hx : xs = [.int .i64 X]) (h0 : 0 ≤ X) (h : X < 2 ^ 31) : RSetList xs (.ref 0 0 (bitL X.toNat 31).length) [.arr 1 (ints (natsI (bitL X.toNat 31)))] := ⟨X.toNat, by rw [hx, Int.toNat_of_nonneg h0], by omega, rfl, rfl⟩
set_option maxHeartbeats 4000000 in
theorem s_impl_AutoTakes : PureSound Try.prog 39 RTakesA := by
  have hR : Rely Try.prog (ctxOf [(70, .pure RAutoOk), (85, .pure RWordOk), (102, .pure RGenOfI), (101, .pure RPoints), (80, .pure RSetList), (118, .pure RLives)]) :=
    rely_cons b_impl_AutoOk.has s_impl_AutoOk (rely_cons b_impl_WordOk.has s_impl_WordOk (rely_cons b_impl_genOf.has s_impl_genOf (rely_cons b_impl_pointsBy.has s_impl_pointsBy (rely_cons b_impl_SetList.has s_impl_SetList (rely_cons b_impl_graph_lives.has s_impl_lives (rely_nil mixed))))))
  refine pure_of_aw b_impl_AutoTakes ?_
  rintro xs r objs ⟨a, s, l, b, rfl, hb0, rfl, rfl⟩ -
  refine ⟨by simp, vc2_sound hR _ _ _ _ _ ?_⟩
  by_cases ha : AutoOk a
  rotate_left
  · obtain rfl : b = false := Bool.eq_false_iff.2 fun h => ha (hb0.1 h).1
    conv => whnf
    repeat' ((first | contradiction | (refine And.intro (fun hb => ?_) (fun hb => ?_) <;> first | contradiction | ((try simp only [SB, reduceCtorEq] at hb); try (exfalso; first | contradiction | omega))) | refine G2 ?_ | rw [ints_at (by omega)] | rw [ints_at0 (by omega)] | rw [ints_at' (by omega) (by omega)] | refine G1 ?_ | refine ⟨_, _, RAutoOk_mk, ?_⟩ | fail) <;> conv => whnf)
    refine ⟨.inl rfl, ?_⟩
    conv => whnf
    refine ⟨[], ⟨rfl, trivial⟩, ?_, rfl, rfl⟩
    conv => whnf
    left
    conv => lhs; whnf
  cases hw : wordOk s l a.letters
  · obtain rfl : b = false := Bool.eq_false_iff.2 fun h => by
      have := (hb0.1 h).2.2.1
      rw [show (genOfD a).letters = a.letters from rfl, hw] at this
      cases this
    conv => whnf
    repeat' ((first | contradiction | (refine And.intro (fun hb => ?_) (fun hb => ?_) <;> first | contradiction | ((try simp only [SB, reduceCtorEq] at hb); try (exfalso; first | contradiction | omega))) | refine G2 ?_ | rw [ints_at (by omega)] | rw [ints_at0 (by omega)] | rw [ints_at' (by omega) (by omega)] | refine G1 ?_ | refine ⟨_, _, RAutoOk_mk, ?_⟩ | refine ⟨_, _, ⟨s, l, a.letters, rfl, congrArg AV.bool hw.symm, rfl⟩, ?_⟩ | fail) <;> conv => whnf)
    refine ⟨.inl rfl, ?_⟩
    conv => whnf
    refine ⟨[], ⟨rfl, trivial⟩, ?_, rfl, rfl⟩
    conv => whnf
    left
    conv => lhs; whnf
  have hg := genOf_ok ha
  obtain ⟨hlo, hs, hl, hl0⟩ := let_ok hw
  have hst := ha.1.2.1
  have hsr := ha.1.2.2
  have hb1 : b = true ↔ Lives (ptsG a.states.toNat s l (genOfD a).edges) (bitL a.start.toNat 31) 1 := hb0.trans ⟨fun h => h.2.2.2, fun h => ⟨ha, hg, hw, h⟩⟩
  have g1 : GOk (ptsG a.states.toNat s l (genOfD a).edges) := gok_pts hg hl0
  have g2 : MarksOk (ptsG a.states.toNat s l (genOfD a).edges) := marks_pts hg
  have g3 : (ptsG a.states.toNat s l (genOfD a).edges).length = (s.length + l.length) * a.states.toNat := length_ptsG
  have g4 : steps (ptsG a.states.toNat s l (genOfD a).edges) ≤ 1000000000 := steps_pts hg hs hl
  have g5 : ∀ p ∈ bitL a.start.toNat 31, p < (ptsG a.states.toNat s l (genOfD a).edges).length := start_pts hg hl0
  have g6 : EdgesIn a.states.toNat (genOfD a).edges := edges_in hg
  have g7 := hg.2.2.1
  have g8 : (bitL a.start.toNat 31).length ≤ 31 := bitL_len
  have hNN : (s.length + l.length) * a.states.toNat ≤ 80 * 31 := Nat.mul_le_mul (by omega) (by omega)
  have hgl := length_gedgeRows (genOfD a).edges
  have hbl : (ints (natsI (bitL a.start.toNat 31))).length = (bitL a.start.toNat 31).length := by simp [ints]
  cases b
  all_goals
    conv => whnf
    repeat' ((first | contradiction | (refine And.intro (fun hb => ?_) (fun hb => ?_) <;> first | contradiction | ((try simp only [SB, reduceCtorEq] at hb); try (exfalso; first | contradiction | omega))) | rw [snap_gv] | rw [snapT_ints hbl] | refine G2 ?_ | rw [ints_at (by omega)] | rw [ints_at0 (by omega)] | rw [ints_at' (by omega) (by omega)] | refine G1 ?_ | refine ⟨_, _, RAutoOk_mk, ?_⟩ | refine ⟨_, _, ⟨s, l, a.letters, rfl, congrArg AV.bool hw.symm, rfl⟩, ?_⟩ | refine ⟨_, _, RGenOfI_eq rfl ha, ?_⟩ | refine ⟨_, _, RPoints_eq (s := s) (l := l) (args_cons rfl (args_cons rfl (args_cons rfl rfl))) (by omega) (by omega) g7 g6 (by omega) (by omega) hl0, ?_⟩ | refine ⟨_, _, RSetList_eq rfl (by omega) (by omega), ?_⟩ | refine ⟨_, _, RLives_eq (args_cons (snap_gr g3) (args_cons rfl (args_cons rfl rfl))) g1 g2 (by omega) g4 g5 (by omega) (by decide) hb1, ?_⟩ | fail) <;> conv => whnf)
    refine ⟨.inl rfl, ?_⟩
    conv => whnf
    refine ⟨[], ⟨rfl, trivial⟩, ?_, rfl, rfl⟩
    conv => whnf
    left
    conv => lhs; whnf
end Go.Proofs.Ythanhknkoikbfaa.Ct
namespace Go.Proofs.Ythanhknkoikbfaa.Ct
open Go Go.Proofs Go.Proofs.Ythanhknkoikbfaa.Av
def marks (k : Int) (n : Nat) : List Int := (List.range n).map fun i => k + (i : Nat)
@[simp] theorem length_marks (k : Int) (n : Nat) : (marks k n).length = n := by simp [marks]
/-! ### the laws' helpers -/
end Go.Proofs.Ythanhknkoikbfaa.Ct
namespace Go.Proofs.Ythanhknkoikbfaa.Ct
open Go Go.Proofs Go.Proofs.Ythanhknkoikbfaa.Av Go.Proofs.Ythanhknkoikbfaa.Pl
theorem RTakesA_is {xs : List AV} {a : AutoD} {s l : List Int} {b : Bool} (hx : xs = [.agg (autoRow a), wordV s l]) (h : b = true ↔ TakesA a s l) : RTakesA xs (.bool b) [] := ⟨a, s, l, b, hx, h, rfl, rfl⟩
theorem RAutoOk_is {xs : List AV} {a : AutoD} {b : Bool} (hx : xs = [.agg (autoRow a)]) (h : decide (AutoOk a) = b) : RAutoOk xs (.bool b) [] := ⟨a, hx, by rw [h], rfl⟩
end Go.Proofs.Ythanhknkoikbfaa.Ct
