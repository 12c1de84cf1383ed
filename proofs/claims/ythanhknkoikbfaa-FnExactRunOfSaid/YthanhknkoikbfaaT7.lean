/- Part 7 of the proof of FnExactRunOfSaid: CtFarP to CtLawRunOf. Conditions: none. -/
import Derived.Test.YthanhknkoikbfaaT6
import Derived.Test.YthanhknkoikbfaaT1
import Derived.Test.YthanhknkoikbfaaT4
set_option linter.unusedSimpArgs false
set_option linter.unusedVariables false
namespace Go.Proofs.Ythanhknkoikbfaa.Ct
open Go Go.Proofs Go.Proofs.Ythanhknkoikbfaa.Av Go.Proofs.Ythanhknkoikbfaa.Pl
noncomputable def lessN (X Y : Nat) : Nat := bitsOf (fun i => X.testBit i = true ∧ Y.testBit i = false) 31
theorem bit_less {X Y i : Nat} : (lessN X Y).testBit i = true ↔ i < 31 ∧ X.testBit i = true ∧ Y.testBit i = false := testBit_bitsOf
theorem less_val {X Y : Nat} (hX : X < 2 ^ 31) (hY : Y < 2 ^ 31) : IntKind.i64.wrap (BitVec.ofInt IntKind.i64.bits ((X : Nat) : Int) &&& ~~~BitVec.ofInt IntKind.i64.bits ((Y : Nat) : Int)).toNat = ((lessN X Y : Nat) : Int) := by
  have hbits : IntKind.i64.bits = 64 := rfl
  have hl : lessN X Y < 2 ^ 31 := bitsOf_lt
  have e : (BitVec.ofInt IntKind.i64.bits ((X : Nat) : Int) &&& ~~~BitVec.ofInt IntKind.i64.bits ((Y : Nat) : Int)).toNat = lessN X Y := by
    refine bits_ext fun i => ?_
    rw [bit_less, hbits, BitVec.ofInt_natCast, BitVec.ofInt_natCast, ← BitVec.getLsbD, BitVec.getLsbD_and, BitVec.getLsbD_not, BitVec.getLsbD_ofNat, BitVec.getLsbD_ofNat]
    constructor
    · intro h
      simp only [Bool.and_eq_true, decide_eq_true_eq, Bool.not_eq_true'] at h
      obtain ⟨⟨h1, h2⟩, _, h3⟩ := h
      refine ⟨bit_lt hX h2, h2, ?_⟩
      simpa [h1] using h3
    · rintro ⟨h1, h2, h3⟩
      simp [h2, h3]
      omega
  rw [e]
  exact IntWalk.i64_in _ (by omega)
section
variable {A : Nat → Nat → Prop} {D : Nat → Int} {n P M k m : Nat}
noncomputable def outM (D : Nat → Int) (M k m : Nat) : List Int := (List.range M).map fun x => if D x < (if x < m then ((k + 1 : Nat) : Int) else (k : Int)) then D x else -1
@[simp] theorem length_outM (D : Nat → Int) (M k m : Nat) : (outM D M k m).length = M := by simp [outM]
theorem outM_zero : outM D M k 0 = outK D M k := by
  unfold outM outK
  refine List.map_congr_left fun x _ => ?_
  rw [if_neg (Nat.not_lt_zero x)]
theorem outM_all : outM D M k M = outK D M (k + 1) := by
  unfold outM outK
  refine List.map_congr_left fun x hx => ?_
  rw [if_pos (List.mem_range.1 hx)]
theorem outM_yes (hm : m < M) (h : D m = (k : Int)) : (outM D M k m).set m (k : Int) = outM D M k (m + 1) := by
  apply List.ext_getElem (by simp)
  intro x h1 h2
  simp only [outM, List.getElem_set, List.getElem_map, List.getElem_range]
  by_cases hx : m = x
  · subst hx
    rw [if_pos rfl, if_pos (by omega), h]
  · rw [if_neg hx]
    by_cases hxm : x < m
    · rw [if_pos hxm, if_pos (show x < m + 1 by omega)]
    · rw [if_neg hxm, if_neg (show ¬ x < m + 1 by omega)]
theorem outM_no (hm : m < M) (h : D m ≠ (k : Int)) : outM D M k m = outM D M k (m + 1) := by
  unfold outM
  refine List.map_congr_left fun x _ => ?_
  by_cases hx : x = m
  · subst hx
    rw [if_neg (Nat.lt_irrefl x), if_pos (Nat.lt_succ_self x)]
    by_cases hk : D x < (k : Int)
    · rw [if_pos hk, if_pos (by omega)]
    · rw [if_neg hk, if_neg (by omega)]
  · by_cases hxm : x < m
    · rw [if_pos hxm, if_pos (show x < m + 1 by omega)]
    · rw [if_neg hxm, if_neg (show ¬ x < m + 1 by omega)]
noncomputable def seenM (D : Nat → Int) (n P k p : Nat) : List Nat := (List.range P).map fun q => if q < p then seenK D n (k + 1) q else seenK D n k q
noncomputable def nextM (D : Nat → Int) (n P k p : Nat) : List Nat := (List.range P).map fun q => if q < p then lvl D n k q else 0
noncomputable def frontK (D : Nat → Int) (n P k : Nat) : List Nat := (List.range P).map (lvl D n k)
@[simp] theorem length_seenM (D : Nat → Int) (n P k p : Nat) : (seenM D n P k p).length = P := by simp [seenM]
@[simp] theorem length_nextM (D : Nat → Int) (n P k p : Nat) : (nextM D n P k p).length = P := by simp [nextM]
@[simp] theorem length_frontK (D : Nat → Int) (n P k : Nat) : (frontK D n P k).length = P := by simp [frontK]
theorem map_range_at {f : Nat → Nat} {P q : Nat} (h : q < P) : ((List.range P).map f).getD q 0 = f q := by
  rw [List.getD_eq_getElem?_getD, List.getElem?_map, List.getElem?_range h]; rfl
theorem seenM_at {p : Nat} (h : p < P) : (seenM D n P k p).getD p 0 = seenK D n k p := by
  unfold seenM; rw [map_range_at h, if_neg (Nat.lt_irrefl p)]
theorem frontK_at {p : Nat} (h : p < P) : (frontK D n P k).getD p 0 = lvl D n k p := map_range_at h
theorem nextM_at {p : Nat} (h : p < P) : (nextM D n P k (p + 1)).getD p 0 = lvl D n k p := by
  unfold nextM; rw [map_range_at h, if_pos (by omega)]
theorem map_set {f g : Nat → Nat} {P p v : Nat} (hv : v = g p) (h : ∀ q, q ≠ p → f q = g q) : ((List.range P).map f).set p v = (List.range P).map g := by
  subst hv
  apply List.ext_getElem (by simp)
  intro x h1 h2
  simp only [List.getElem_set, List.getElem_map, List.getElem_range]
  by_cases hx : p = x
  · rw [if_pos hx, hx]
  · rw [if_neg hx]; exact h x (fun e => hx e.symm)
theorem seenM_set {p : Nat} : (seenM D n P k p).set p (seenK D n k p ||| lvl D n k p) = seenM D n P k (p + 1) := by
  refine map_set ?_ (fun q hq => ?_)
  · rw [if_pos (Nat.lt_succ_self p), seenK_succ]
  · by_cases h : q < p
    · rw [if_pos h, if_pos (show q < p + 1 by omega)]
    · rw [if_neg h, if_neg (show ¬ q < p + 1 by omega)]
theorem nextM_set {p : Nat} : (nextM D n P k p).set p (lvl D n k p) = nextM D n P k (p + 1) := by
  refine map_set ?_ (fun q hq => ?_)
  · rw [if_pos (Nat.lt_succ_self p)]
  · by_cases h : q < p
    · rw [if_pos h, if_pos (show q < p + 1 by omega)]
    · rw [if_neg h, if_neg (show ¬ q < p + 1 by omega)]
theorem nextM_zero : nextM D n P k 0 = List.replicate P 0 := by
  apply List.ext_getElem (by simp)
  intro x h1 h2
  simp [nextM]
theorem nextM_all : nextM D n P k P = frontK D n P k := by
  unfold nextM frontK
  refine List.map_congr_left fun q hq => ?_
  rw [if_pos (List.mem_range.1 hq)]
theorem seenM_all : seenM D n P k P = seenM D n P (k + 1) 0 := by
  unfold seenM
  refine List.map_congr_left fun q hq => ?_
  rw [if_pos (List.mem_range.1 hq), if_neg (Nat.not_lt_zero q)]
end
section
variable {g : GenD} {s l : List Int} {t k p : Nat}
noncomputable def farG (g : GenD) (s l : List Int) (t : Nat) : List Int := (List.range ((s.length + l.length) * g.states.toNat)).map (toD (PA g s l) t)
theorem pa_from (hg : GenOk g) {x y : Nat} (h : PA g s l x y) : x < (s.length + l.length) * g.states.toNat := by
  obtain ⟨h1, e, he, _, h2, _⟩ := h
  have hi := gmem hg he
  unfold GIn at hi
  have := pt_lt (n := g.states.toNat) (v := x % g.states.toNat) h1 (Nat.mod_lt _ (by omega))
  rwa [pt_eq] at this
theorem toD_in (hg : GenOk g) (ht : t < (s.length + l.length) * g.states.toNat) {x : Nat} (h : 0 ≤ toD (PA g s l) t x) : x < (s.length + l.length) * g.states.toNat ∧ toD (PA g s l) t x < ((s.length + l.length) * g.states.toNat : Nat) := by
  refine ⟨?_, toD_lt (fun p r hp => pa_from hg hp) ht h⟩
  by_cases h0 : toD (PA g s l) t x = 0
  · rw [toD_zero.1 h0]; exact ht
  · obtain ⟨k, hk⟩ : ∃ k : Nat, toD (PA g s l) t x = ((k + 1 : Nat) : Int) := ⟨(toD (PA g s l) t x).toNat - 1, by omega⟩
    obtain ⟨y, hy, _⟩ := toD_pred hk
    exact pa_from hg hy
theorem lvl_step (hg : GenOk g) (hw : LetOk s l) (hp : p < s.length + l.length) : lessN (stepB g true (lvl (toD (PA g s l) t) g.states.toNat k (nextN s l p)) (letN s l p).toNat) (seenK (toD (PA g s l) t) g.states.toNat (k + 1) p) = lvl (toD (PA g s l) t) g.states.toNat (k + 1) p := bits_ext fun v => by
  have hl := hw p hp
  have hst := hg.1.2.1
  rw [bit_less, bit_stepT hg (by omega), bit_lvl]
  constructor
  · rintro ⟨h1, ⟨e, he, h2, h3, h4⟩, h5⟩
    have hi := gmem hg he
    unfold GIn at hi
    rw [bit_lvl] at h3
    have hv : v < g.states.toNat := by omega
    have hpa : PA g s l (p * g.states.toNat + v) (nextN s l p * g.states.toNat + e.dst.toNat) := by
      unfold PA
      rw [pt_div hv, pt_mod hv]
      exact ⟨hp, e, he, by omega, h4, rfl⟩
    refine ⟨hv, ?_⟩
    obtain ⟨h6, h7⟩ := toD_step hpa (by rw [h3.2]; omega)
    rw [h3.2] at h7
    have h8 : ¬ (seenK (toD (PA g s l) t) g.states.toNat (k + 1) p).testBit v = true := by rw [h5]; decide
    rw [bit_seenK] at h8
    have : ¬ toD (PA g s l) t (p * g.states.toNat + v) < ((k + 1 : Nat) : Int) := fun h => h8 ⟨hv, h6, h⟩
    omega
  · rintro ⟨hv, hd⟩
    obtain ⟨y, hy, hyd⟩ := toD_pred hd
    obtain ⟨h1, e, he, h2, h3, rfl⟩ := hy
    rw [pt_div hv] at h2 hyd
    rw [pt_mod hv] at h3
    have hi := gmem hg he
    unfold GIn at hi
    refine ⟨by omega, ⟨e, he, by omega, ?_, h3⟩, ?_⟩
    · rw [bit_lvl]
      exact ⟨by omega, hyd⟩
    · refine Bool.eq_false_iff.2 fun h => ?_
      rw [bit_seenK, hd] at h
      omega
theorem out_start (ht : t < (s.length + l.length) * g.states.toNat) : (List.replicate ((s.length + l.length) * g.states.toNat) (-1 : Int)).set t 0 = outK (toD (PA g s l) t) ((s.length + l.length) * g.states.toNat) 1 := by
  apply List.ext_getElem (by simp)
  intro x h1 h2
  simp only [outK, List.getElem_set, List.getElem_map, List.getElem_range, List.getElem_replicate]
  have hz := toD_zero (A := PA g s l) (t := t) (x := x)
  have hge := toD_ge (A := PA g s l) (t := t) (x := x)
  by_cases hx : t = x
  · rw [if_pos hx, hz.2 hx.symm, if_pos (by omega)]
  · have : toD (PA g s l) t x ≠ 0 := fun h => hx (hz.1 h).symm
    rw [if_neg hx]
    split <;> omega
theorem lvl_zero (hn : 0 < g.states.toNat) {q : Nat} : lvl (toD (PA g s l) t) g.states.toNat 0 q = if q = t / g.states.toNat then 2 ^ (t % g.states.toNat) else 0 := bits_ext fun v => by
  rw [bit_lvl]
  have hz : toD (PA g s l) t (q * g.states.toNat + v) = ((0 : Nat) : Int) ↔ q * g.states.toNat + v = t := toD_zero
  rw [hz]
  constructor
  · rintro ⟨hv, h⟩
    have e1 : q = t / g.states.toNat := by rw [← h, pt_div hv]
    have e2 : v = t % g.states.toNat := by rw [← h, pt_mod hv]
    rw [if_pos e1, ← e2, Nat.testBit_two_pow_self]
  · intro h
    split at h
    · rename_i hq
      rw [Nat.testBit_two_pow, decide_eq_true_eq] at h
      subst hq
      subst h
      exact ⟨Nat.mod_lt _ hn, pt_eq⟩
    · rw [Nat.zero_testBit] at h
      cases h
theorem seen_one {q : Nat} : seenK (toD (PA g s l) t) g.states.toNat 1 q = lvl (toD (PA g s l) t) g.states.toNat 0 q := bits_ext fun v => by
  rw [bit_seenK, bit_lvl]
  constructor
  · rintro ⟨h1, h2, h3⟩; exact ⟨h1, by omega⟩
  · rintro ⟨h1, h2⟩; exact ⟨h1, by omega, by omega⟩
theorem front_start (hn : 0 < g.states.toNat) : (List.replicate (s.length + l.length) 0).set (t / g.states.toNat) (2 ^ (t % g.states.toNat)) = frontK (toD (PA g s l) t) g.states.toNat (s.length + l.length) 0 := by
  have e : List.replicate (s.length + l.length) 0 = (List.range (s.length + l.length)).map fun _ => 0 := by
    apply List.ext_getElem (by simp)
    intro x h1 h2
    simp
  rw [e]
  refine map_set ?_ (fun q hq => ?_)
  · rw [lvl_zero hn, if_pos rfl]
  · rw [lvl_zero hn, if_neg hq]
theorem seen_start : frontK (toD (PA g s l) t) g.states.toNat (s.length + l.length) 0 = seenM (toD (PA g s l) t) g.states.toNat (s.length + l.length) 1 0 := by
  unfold frontK seenM
  refine List.map_congr_left fun q hq => ?_
  rw [if_neg (Nat.not_lt_zero q), seen_one]
theorem out_end (hg : GenOk g) (ht : t < (s.length + l.length) * g.states.toNat) (h : ¬ ∃ x, x < (s.length + l.length) * g.states.toNat ∧ toD (PA g s l) t x = (k : Int)) : outK (toD (PA g s l) t) ((s.length + l.length) * g.states.toNat) (k + 1) = farG g s l t := by
  unfold outK farG
  refine List.map_congr_left fun x _ => ?_
  have hge := toD_ge (A := PA g s l) (t := t) (x := x)
  by_cases hx : toD (PA g s l) t x < ((k + 1 : Nat) : Int)
  · rw [if_pos hx]
  · exfalso
    obtain ⟨y, hy⟩ := toD_below (A := PA g s l) (t := t) (x := x) (k := (toD (PA g s l) t x).toNat) (j := k) (by omega) (by omega)
    exact h ⟨y, (toD_in hg ht (by rw [hy]; omega)).1, hy⟩
end
def c_spec_l6Far : ICode := (.seq (.reg [O1 3 (.box 5) 0, O1 4 (.box 2) 1, Ol 6 .mv [.c .snil]]) (.seq (.reg [O1 18 (.ldn 5) 3, Ol 19 (.call 170) [.t 18, cb true], O1 7 .mv 19]) (.seq (.reg [O1 20 (.ldn 2) 4, O1 21 (.call 91) 20, O1 8 .mv 21]) (.seq (.reg [O0 22 .bsle, O1 9 .mv 22]) (.seq (.seq (.reg [Ol 10 .mv [ci 0]]) (.block 0 (.loop (.seq (.seq (.reg [O1 23 .mv 10, O1 24 .mv 8, O1 25 (.fadr 1) 3, O1 26 .ld1 25, O2 27 (.bin .mul) 24 26, O2 28 (.bin .lss) 23 27]) (.cond (.t 28) .skip (.exit 0))) (.seq (.block 1 (.reg [O1 31 .mv 9, Ol 32 (.bslv 1) [ci (-1)], O2 33 (.app 1 8) 31 32, O1 9 .mv 33])) (.reg [O1 29 .mv 10, Ol 30 (.bin .add) [.t 29, ci 1], O1 10 .mv 30])))))) (.seq (.reg [O1 34 .mv 9, O1 35 .mv 2, O2 36 (.iadr 1) 34 35, Sl (.st 1) [.t 36, ci 0]]) (.seq (.reg [O1 37 .mv 8, O2 38 (.mks 1 8 [(.int .i64 0)]) 37 37, O1 11 .mv 38]) (.seq (.reg [O1 39 .mv 8, O2 40 (.mks 1 8 [(.int .i64 0)]) 39 39, O1 12 .mv 40]) (.seq (.drw [O1 41 .mv 11, O1 42 .mv 2, O1 43 (.fadr 1) 3, O1 44 .ld1 43, O2 45 (.bin .quo) 42 44, O1 46 .mv 2, O1 47 (.fadr 1) 3, O1 48 .ld1 47, O2 49 (.bin .rem) 46 48, O1 50 (.call 123) 49, O2 51 (.iadr 1) 41 45, S2 (.st 1) 51 50] (unB [0, 0, 0, 4, 14, 0, 0, 64, 224, 480, 1023, 2047] 0) true true) (.seq (.drw [O1 52 .mv 12, O1 53 .mv 2, O1 54 (.fadr 1) 3, O1 55 .ld1 54, O2 56 (.bin .quo) 53 55, O1 57 .mv 11, O1 58 .mv 2, O1 59 (.fadr 1) 3, O1 60 .ld1 59, O2 61 (.bin .quo) 58 60, O2 62 (.iadr 1) 57 61, O1 63 .ld1 62, O2 64 (.iadr 1) 52 56, S2 (.st 1) 64 63] (unB [0, 0, 0, 4, 14, 0, 0, 0, 128, 448, 992, 2016, 4095, 8191] 0) true true) (.seq (.reg [Ol 13 .mv [cb true]]) (.seq (.seq (.reg [Ol 14 .mv [ci 1]]) (.block 2 (.loop (.seq (.seq (.reg [O1 65 .mv 13]) (.cond (.t 65) .skip (.exit 2))) (.seq (.block 3 (.seq (.reg [Ol 13 .mv [cb false]]) (.seq (.reg [O1 68 .mv 8, O2 69 (.mks 1 8 [(.int .i64 0)]) 68 68, O1 15 .mv 69]) (.seq (.seq (.reg [Ol 16 .mv [ci 0]]) (.block 4 (.loop (.seq (.seq (.reg [O1 70 .mv 16, O1 71 .mv 8, O2 72 (.bin .lss) 70 71]) (.cond (.t 72) .skip (.exit 4))) (.seq (.block 5 (.seq (.drw [O1 75 .mv 15, O1 76 .mv 16, O1 77 .mv 7, O1 78 .mv 12, O1 79 (.ldn 2) 4, O1 80 .mv 16, O2 81 (.call 92) 79 80, O2 82 (.iadr 1) 78 81, O1 83 .ld1 82, O1 84 (.ldn 2) 4, O1 85 .mv 16, O2 86 (.call 93) 84 85, O3 87 (.call 173) 77 83 86, O1 88 .mv 11, O1 89 .mv 16, O2 90 (.iadr 1) 88 89, O1 91 .ld1 90, O2 92 (.bin .andNot) 87 91, O2 93 (.iadr 1) 75 76, S2 (.st 1) 93 92] (unB [0, 0, 0, 0, 0, 0, 48, 120, 248, 0, 0, 1648, 4092, 0, 0, 24576, 57344, 131068, 262143, 524287] 0) true true) (.seq (.drw [O1 94 .mv 11, O1 95 .mv 16, O1 96 .mv 11, O1 97 .mv 16, O2 98 (.iadr 1) 96 97, O1 99 .ld1 98, O1 100 .mv 15, O1 101 .mv 16, O2 102 (.iadr 1) 100 101, O1 103 .ld1 102, O2 104 (.bin .or) 99 103, O2 105 (.iadr 1) 94 95, S2 (.st 1) 105 104] (unB [0, 0, 0, 0, 12, 28, 0, 0, 192, 448, 1020, 2047, 4095] 0) true true) (.seq (.reg [Ol 17 .mv [ci 0]]) (.block 6 (.loop (.seq (.seq (.reg [O1 106 .mv 17, O1 107 (.fadr 1) 3, O1 108 .ld1 107, O2 109 (.bin .lss) 106 108]) (.cond (.t 109) .skip (.exit 6))) (.seq (.block 7 (.seq (.reg [O1 112 .mv 15, O1 113 .mv 16, O2 114 (.iadr 1) 112 113, O1 115 .ld1 114, O1 116 .mv 17, O2 117 (.call 73) 115 116]) (.cond (.t 117) (.seq (.reg [O1 118 .mv 9, O1 119 .mv 16, O1 120 (.fadr 1) 3, O1 121 .ld1 120, O2 122 (.bin .mul) 119 121, O1 123 .mv 17, O2 124 (.bin .add) 122 123, O1 125 .mv 14, O2 126 (.iadr 1) 118 124, S2 (.st 1) 126 125]) (.reg [Ol 13 .mv [cb true]])) .skip))) (.reg [O1 110 .mv 17, Ol 111 (.bin .add) [.t 110, ci 1], O1 17 .mv 111]))))))))) (.reg [O1 73 .mv 16, Ol 74 (.bin .add) [.t 73, ci 1], O1 16 .mv 74])))))) (.reg [O1 127 .mv 15, O1 12 .mv 127]))))) (.reg [O1 66 .mv 14, Ol 67 (.bin .add) [.t 66, ci 1], O1 14 .mv 67])))))) (.seq (.reg [O1 128 .mv 9, O1 6 .mv 128]) .ret)))))))))))))
theorem b_spec_l6Far : Body Try.prog 172 129 c_spec_l6Far [(.t 6)] := body_mk Try.func172 (by kernel_rfl) (by decide)
def RFarS (xs : List AV) (r : AV) (objs : List AObj) : Prop := ∃ (g : GenD) (s l : List Int) (t : Nat), xs = [.agg (genRow g), wordV s l, .int .i64 ((t : Nat) : Int)] ∧ GenOk g ∧ LetOk s l ∧ s.length ≤ 40 ∧ l.length ≤ 40 ∧ 0 < l.length ∧ t < (s.length + l.length) * g.states.toNat ∧
  r = .ref 0 0 ((s.length + l.length) * g.states.toNat) ∧ objs = [.arr 1 (ints (farG g s l t))]
theorem RFarS_eq {xs : List AV} {g : GenD} {s l : List Int} {t : Nat} (hx : xs = [.agg (genRow g), wordV s l, .int .i64 ((t : Nat) : Int)]) (h1 : GenOk g) (h2 : LetOk s l) (h3 : s.length ≤ 40) (h4 : l.length ≤ 40) (h5 : 0 < l.length) (h6 : t < (s.length + l.length) * g.states.toNat) :
    RFarS xs (.ref 0 0 ((s.length + l.length) * g.states.toNat)) [.arr 1 (ints (farG g s l t))] := ⟨g, s, l, t, hx, h1, h2, h3, h4, h5, h6, rfl, rfl⟩
theorem put_rows {N q X : Nat} : (List.replicate ((N : Nat) : Int).toNat [AV.int .i64 0]).set (0 + ((q : Nat) : Int).toNat) [.int .i64 ((X : Nat) : Int)] = ints (natsI ((List.replicate N 0).set q X)) := by simp [ints, natsI, List.map_set]
theorem set_natsI {L : List Nat} {p X : Nat} : (ints (natsI L)).set (0 + ((p : Nat) : Int).toNat) [.int .i64 ((X : Nat) : Int)] = ints (natsI (L.set p X)) := by simp [ints, natsI, List.map_set]
set_option maxHeartbeats 16000000 in
theorem s_spec_l6Far : PureSound Try.prog 172 RFarS := by
  have hR : Rely Try.prog (ctxOf [(170, .pure RSucc), (91, .pure RPlacesS), (123, .pure RBit), (92, .pure RAfter), (93, .pure RL3At), (173, .pure RStepG), (73, .pure RHas)]) :=
    rely_cons b_spec_l6Succ.has s_spec_l6Succ (rely_cons b_spec_l6Places.has s_spec_l6Places (rely_cons b_spec_l1Bit.has s_spec_l1Bit (rely_cons b_spec_l6After.has s_spec_l6After (rely_cons b_spec_l3At.has s_spec_l3At (rely_cons b_spec_l6Step.has s_spec_l6Step (rely_cons b_spec_l1Has.has s_spec_l1Has (rely_nil mixed)))))))
  refine pure_of_aw b_spec_l6Far ?_
  rintro xs r objs ⟨g, s, l, t, rfl, hg, hw, hs, hl, hl0, ht, rfl, rfl⟩ -
  have hst := hg.1.2.1
  have hNN : (s.length + l.length) * g.states.toNat ≤ 80 * 31 := Nat.mul_le_mul (by omega) (by omega)
  have hn0 : 0 < g.states.toNat := by
    rcases Nat.eq_zero_or_pos g.states.toNat with h | h
    · rw [h, Nat.mul_zero] at ht; omega
    · exact h
  have hgs : g.states = ((g.states.toNat : Nat) : Int) := by omega
  have hcast : ((s.length + l.length : Nat) : Int) * g.states = (((s.length + l.length) * g.states.toNat : Nat) : Int) := by rw [Int.natCast_mul, ← hgs]
  have hin := fun x => toD_in (x := x) hg ht
  have hend := fun k => out_end (k := k) hg ht
  have hstep := fun k p => lvl_step (t := t) (k := k) (p := p) hg hw
  have ho0 := out_start (g := g) (s := s) (l := l) ht
  have hf0 := front_start (s := s) (l := l) (t := t) hn0
  have hs0 := seen_start (g := g) (s := s) (l := l) (t := t)
  have htd : t / g.states.toNat < s.length + l.length := Nat.div_lt_of_lt_mul (by rw [Nat.mul_comm]; exact ht)
  have htm : t % g.states.toNat < g.states.toNat := Nat.mod_lt _ hn0
  have hquo : IntKind.i64.wrap (Int.tdiv ((t : Nat) : Int) g.states) = ((t / g.states.toNat : Nat) : Int) := quo_nat (by omega) (by omega)
  have hrem : Int.tmod ((t : Nat) : Int) g.states = ((t % g.states.toNat : Nat) : Int) := rem_nat (by omega)
  generalize hD : toD (PA g s l) t = D at *
  generalize hP : s.length + l.length = P at *
  generalize hM : P * g.states.toNat = M at *
  have hPl : P ≤ 80 := by omega
  generalize hq0 : t / g.states.toNat = q0 at *
  generalize hr0 : t % g.states.toNat = r0 at *
  refine ⟨by simp, vc2_sound hR _ _ _ _ _ ?_⟩
  conv => whnf
  repeat' ((first | contradiction | (refine And.intro (fun hb => ?_) (fun hb => ?_) <;> first | contradiction | ((try simp only [SB, reduceCtorEq] at hb); try (exfalso; first | contradiction | omega))) | refine G2 ?_ | rw [ints_at (by omega)] | rw [ints_at0 (by omega)] | rw [ints_at' (by omega) (by omega)] | refine G1 ?_ | refine ⟨_, _, RSucc_eq rfl hg, ?_⟩ | refine ⟨_, _, RPlacesS_eq (s := s) (l := l) rfl (by omega) (by omega), ?_⟩ | fail) <;> conv => whnf)
  refine Lp.intro (α := Nat) (fun i => i ≤ M) (fun i => M - i) (fun i => [(2, .int .i64 ((t : Nat) : Int)), (3, .rptr (genRow g) 0), (4, wordP s l), (7, .val (ints (natsI (succL g true g.edges.length)))), (8, .int .i64 ((P : Nat) : Int)), (9, .ref 0 0 i), (10, .int .i64 i)]) (fun i => [some (.arr 1 (ints (List.replicate i (-1))))]) ?_ ?_
  · refine ⟨0, Nat.zero_le _, [none], rfl, rfl, And.intro rfl trivial, ?_⟩
    exact ⟨.inl rfl, .inr rfl, .inr rfl, .inr (snap_all rfl (by simp [ints])), .inl (congrArg (fun x : Nat => AV.int .i64 x) hP), ⟨rfl, rfl, rfl⟩, .inl rfl, trivial⟩
  intro i hi
  have hil : (ints (List.replicate i (-1))).length = i := by simp [ints]
  refine vc2_sound hR _ _ _ _ _ ?_
  by_cases hlt : i < M
  · conv => whnf
    repeat' ((first | contradiction | (refine And.intro (fun hb => ?_) (fun hb => ?_) <;> first | contradiction | ((try simp only [SB, reduceCtorEq] at hb); try (exfalso; first | contradiction | omega))) | rw [hcast] | refine G2 ?_ | rw [ints_at (by omega)] | rw [ints_at0 (by omega)] | rw [ints_at' (by omega) (by omega)] | refine G1 ?_ | fail) <;> conv => whnf)
    refine ⟨i + 1, hlt, by omega, [some 1], rfl, rfl, And.intro (And.intro rfl neg_more) trivial, ?_⟩
    exact ⟨.inl rfl, .inl rfl, .inl rfl, .inl rfl, .inl rfl, rfl, .inl rfl, trivial⟩
  have hiM : M = i := by omega
  subst hiM
  clear hi hlt
  have hset0 : (ints (List.replicate M (-1)))[0 + ((t : Nat) : Int).toNat]? = some [.int .i64 (-1)] := by simp [ints, List.getElem?_replicate, ht]
  have hrl : 0 + ((q0 : Nat) : Int).toNat < (List.replicate ((P : Nat) : Int).toNat [AV.int .i64 0]).length := by rw [List.length_replicate]; omega
  have hrl0 : 0 + ((q0 : Nat) : Int).toNat < ((P : Nat) : Int).toNat := by omega
  conv => whnf
  repeat' ((first | contradiction | (refine And.intro (fun hb => ?_) (fun hb => ?_) <;> first | contradiction | ((try simp only [SB, reduceCtorEq] at hb); try (exfalso; first | contradiction | omega))) | rw [hcast] | rw [hset0] | rw [hquo] | rw [hrem] | rw [List.getElem?_set_self hrl] | rw [rep_get hrl0] | refine G2 ?_ | rw [ints_at (by omega)] | rw [ints_at0 (by omega)] | rw [ints_at' (by omega) (by omega)] | refine G1 ?_ | refine ⟨_, rfl, ?_⟩ | refine ⟨_, _, RBit_mk (by omega) (by omega), ?_⟩ | fail) <;> conv => whnf)
  refine Lp.intro (α := Nat × Bool) (fun c => c.1 ≤ M ∧ (c.2 = true ↔ ∃ x, x < M ∧ D x = ((c.1 : Nat) : Int))) (fun c => M + 1 - c.1)
    (fun c => [(3, .rptr (genRow g) 0), (4, wordP s l), (7, .val (ints (natsI (succL g true g.edges.length)))), (8, .int .i64 ((P : Nat) : Int)), (9, .ref 0 0 M), (11, .ref 1 0 P), (12, .ref 2 0 P), (13, .bool c.2), (14, .int .i64 ((c.1 + 1 : Nat) : Int))])
    (fun c => [some (.arr 1 (ints (outK D M (c.1 + 1)))), some (.arr 1 (ints (natsI (seenM D g.states.toNat P (c.1 + 1) 0)))), some (.arr 1 (ints (natsI (frontK D g.states.toNat P c.1))))]) ?_ ?_
  · refine ⟨(0, true), ⟨Nat.zero_le _, fun _ => ⟨t, ht, ?_⟩, fun _ => rfl⟩, [some 0, some 1, some 2], rfl, rfl, ?_, ?_⟩
    · rw [← hD]; exact toD_zero.2 rfl
    · exact And.intro (And.intro rfl (ints_set.trans (congrArg ints ho0))) (And.intro (And.intro rfl (put_rows.trans (congrArg (fun L => ints (natsI L)) (hf0.trans hs0)))) (And.intro (And.intro rfl (put_rows.trans (congrArg (fun L => ints (natsI L)) hf0))) trivial))
    · exact ⟨.inl rfl, .inl rfl, .inl rfl, .inl rfl, rfl, rfl, rfl, .inl rfl, .inl rfl, trivial⟩
  rintro ⟨k, b⟩ ⟨hkM, hbk⟩
  dsimp only at hkM hbk ⊢
  refine vc2_sound hR _ _ _ _ _ ?_
  cases b with
  | false =>
    conv => whnf
    repeat' ((first | contradiction | (refine And.intro (fun hb => ?_) (fun hb => ?_) <;> first | contradiction | ((try simp only [SB, reduceCtorEq] at hb); try (exfalso; first | contradiction | omega))) | refine G2 ?_ | rw [ints_at (by omega)] | rw [ints_at0 (by omega)] | rw [ints_at' (by omega) (by omega)] | refine G1 ?_ | fail) <;> conv => whnf)
    have e := hend k (fun h => by have := hbk.2 h; cases this)
    refine ⟨.inl rfl, ?_⟩
    conv => whnf
    exact ⟨[some 0], ⟨rfl, And.intro (And.intro rfl (congrArg ints e)) trivial⟩, rfl, rfl, by simp [AObj.nov, ints_nov]⟩
  | true =>
    have hkl : k < M := by
      obtain ⟨x, hx, hxd⟩ := hbk.1 rfl
      have := (hin x (by rw [hxd]; omega)).2
      rw [hxd] at this
      omega
    clear hbk
    conv => whnf
    repeat' ((first | contradiction | (refine And.intro (fun hb => ?_) (fun hb => ?_) <;> first | contradiction | ((try simp only [SB, reduceCtorEq] at hb); try (exfalso; first | contradiction | omega))) | refine G2 ?_ | rw [ints_at (by omega)] | rw [ints_at0 (by omega)] | rw [ints_at' (by omega) (by omega)] | refine G1 ?_ | fail) <;> conv => whnf)
    refine Lp.intro (α := Nat × Bool) (fun c => c.1 ≤ P ∧ (c.2 = true ↔ ∃ x, x < c.1 * g.states.toNat ∧ D x = ((k + 1 : Nat) : Int))) (fun c => P - c.1)
      (fun c => [(3, .rptr (genRow g) 0), (4, wordP s l), (7, .val (ints (natsI (succL g true g.edges.length)))), (8, .int .i64 ((P : Nat) : Int)), (9, .ref 0 0 M), (11, .ref 1 0 P), (12, .ref 2 0 P), (13, .bool c.2), (14, .int .i64 ((k + 1 : Nat) : Int)), (15, .ref 3 0 P), (16, .int .i64 ((c.1 : Nat) : Int))])
      (fun c => [some (.arr 1 (ints (outM D M (k + 1) (c.1 * g.states.toNat)))), some (.arr 1 (ints (natsI (seenM D g.states.toNat P (k + 1) c.1)))), some (.arr 1 (ints (natsI (frontK D g.states.toNat P k)))), some (.arr 1 (ints (natsI (nextM D g.states.toNat P (k + 1) c.1))))]) ?_ ?_
    · refine ⟨(0, false), ⟨Nat.zero_le _, fun h => (by cases h), fun ⟨x, hx, _⟩ => by rw [Nat.zero_mul] at hx; omega⟩, [some 0, some 1, some 2, some 3], rfl, rfl, ?_, ?_⟩
      · refine And.intro (And.intro rfl ?_) (And.intro (And.intro rfl rfl) (And.intro (And.intro rfl rfl) (And.intro (And.intro rfl ?_) trivial)))
        · dsimp only; rw [Nat.zero_mul, outM_zero]
        · dsimp only; rw [nextM_zero]; exact zero_rows
      · exact ⟨.inl rfl, .inl rfl, .inl rfl, .inl rfl, rfl, rfl, rfl, .inl rfl, .inl rfl, rfl, .inl rfl, trivial⟩
    rintro ⟨p, b⟩ ⟨hp, hbp⟩
    dsimp only at hp hbp ⊢
    refine vc2_sound hR _ _ _ _ _ ?_
    by_cases hlt : p < P
    rotate_left
    · have e : p = P := by omega
      subst e
      conv => whnf
      repeat' ((first | contradiction | (refine And.intro (fun hb => ?_) (fun hb => ?_) <;> first | contradiction | ((try simp only [SB, reduceCtorEq] at hb); try (exfalso; first | contradiction | omega))) | refine G2 ?_ | rw [ints_at (by omega)] | rw [ints_at0 (by omega)] | rw [ints_at' (by omega) (by omega)] | refine G1 ?_ | fail) <;> conv => whnf)
      refine ⟨(k + 1, b), ⟨hkl, by rw [← hM]; exact hbp⟩, by dsimp only; omega, [some 0, some 1, some 3], rfl, rfl, ?_, ?_⟩
      · refine And.intro (And.intro rfl ?_) (And.intro (And.intro rfl ?_) (And.intro (And.intro rfl ?_) trivial))
        · rw [hM, outM_all]
        · rw [seenM_all]
        · rw [nextM_all]
      · exact ⟨.inl rfl, .inl rfl, .inl rfl, .inl rfl, rfl, rfl, rfl, .inl rfl, .inl rfl, trivial⟩
    have hlt' : p < s.length + l.length := by omega
    have hnx := nextN_lt (s := s) hlt' hl0
    rw [hP] at hnx
    have hlp := hw p hlt'
    have hlx : letN s l p = (((letN s l p).toNat : Nat) : Int) := by omega
    have hfr := natsI_at0 (l := frontK D g.states.toNat P k) (i := nextN s l p) (by rw [length_frontK]; exact hnx)
    rw [frontK_at hnx] at hfr
    have hse := natsI_at0 (l := seenM D g.states.toNat P (k + 1) p) (i := p) (by rw [length_seenM]; exact hlt)
    rw [seenM_at hlt] at hse
    have hne := natsI_at0 (l := nextM D g.states.toNat P (k + 1) p) (i := p) (by rw [length_nextM]; exact hlt)
    have hp31 : 2 ^ g.states.toNat ≤ 2 ^ 31 := Nat.pow_le_pow_right (by decide) (by omega)
    have b1 : lvl D g.states.toNat k (nextN s l p) < 2 ^ 31 := Nat.lt_of_lt_of_le lvl_lt hp31
    have b2 : seenK D g.states.toNat (k + 1) p < 2 ^ 31 := Nat.lt_of_lt_of_le seenK_lt hp31
    have b3 : lvl D g.states.toNat (k + 1) p < 2 ^ 31 := Nat.lt_of_lt_of_le lvl_lt hp31
    have b4 : stepB g true (lvl D g.states.toNat k (nextN s l p)) (letN s l p).toNat < 2 ^ 31 := Nat.lt_of_lt_of_le (stpI_lt hg) hp31
    have hless := (less_val b4 b2).trans (congrArg (fun x : Nat => (x : Int)) (hstep k p hlt))
    have hor := or_val (X := seenK D g.states.toNat (k + 1) p) (Y := lvl D g.states.toNat (k + 1) p) (by omega) (by omega)
    have hl3 : 0 + ((p : Nat) : Int).toNat < (ints (natsI (nextM D g.states.toNat P (k + 1) p))).length := by simp [ints]; omega
    conv => whnf
    repeat' ((first | contradiction | (refine And.intro (fun hb => ?_) (fun hb => ?_) <;> first | contradiction | ((try simp only [SB, reduceCtorEq] at hb); try (exfalso; first | contradiction | omega))) | rw [hfr] | rw [hse] | rw [hne] | rw [hless] | rw [hor] | rw [List.getElem?_set_self hl3] | refine G2 ?_ | rw [ints_at (by omega)] | rw [ints_at0 (by omega)] | rw [ints_at' (by omega) (by omega)] | refine G1 ?_ | refine ⟨_, _, RAfter_eq (s := s) (l := l) rfl (by omega) (by omega) hlt', ?_⟩ | refine ⟨_, _, RL3At_eq (s := s) (l := l) rfl (by omega) (by omega) hlt', ?_⟩ | refine ⟨_, _, RStepG_eq (g := g) (bk := true) (X := lvl D g.states.toNat k (nextN s l p)) (x := (letN s l p).toNat) (args_cons rfl (args_cons rfl (args_cons (congrArg (AV.int .i64) hlx) rfl))) hg b1 (by omega), ?_⟩ | fail) <;> conv => whnf)
    have hpn : (p + 1) * g.states.toNat ≤ P * g.states.toNat := Nat.mul_le_mul_right _ hlt
    rw [hM, Nat.add_mul, Nat.one_mul] at hpn
    refine Lp.intro (α := Nat × Bool) (fun c => c.1 ≤ g.states.toNat ∧ (c.2 = true ↔ ∃ x, x < p * g.states.toNat + c.1 ∧ D x = ((k + 1 : Nat) : Int))) (fun c => g.states.toNat - c.1)
      (fun c => [(3, .rptr (genRow g) 0), (4, wordP s l), (7, .val (ints (natsI (succL g true g.edges.length)))), (8, .int .i64 ((P : Nat) : Int)), (9, .ref 0 0 M), (11, .ref 1 0 P), (12, .ref 2 0 P), (13, .bool c.2), (14, .int .i64 ((k + 1 : Nat) : Int)), (15, .ref 3 0 P), (16, .int .i64 ((p : Nat) : Int)), (17, .int .i64 ((c.1 : Nat) : Int))])
      (fun c => [some (.arr 1 (ints (outM D M (k + 1) (p * g.states.toNat + c.1)))), some (.arr 1 (ints (natsI (seenM D g.states.toNat P (k + 1) (p + 1))))), some (.arr 1 (ints (natsI (frontK D g.states.toNat P k)))), some (.arr 1 (ints (natsI (nextM D g.states.toNat P (k + 1) (p + 1)))))]) ?_ ?_
    · refine ⟨(0, b), ⟨Nat.zero_le _, hbp⟩, [some 0, some 1, some 2, some 3], rfl, rfl, ?_, ?_⟩
      · exact And.intro (And.intro rfl rfl) (And.intro (And.intro rfl (set_natsI.trans (congrArg (fun L => ints (natsI L)) seenM_set))) (And.intro (And.intro rfl rfl) (And.intro (And.intro rfl (set_natsI.trans (congrArg (fun L => ints (natsI L)) nextM_set))) trivial)))
      · exact ⟨.inl rfl, .inl rfl, .inl rfl, .inl rfl, rfl, rfl, rfl, .inl rfl, .inl rfl, rfl, .inl rfl, .inl rfl, trivial⟩
    clear hfr hse hne hless hor hl3 hbp
    rintro ⟨v, b⟩ ⟨hv, hbv⟩
    dsimp only at hv hbv ⊢
    refine vc2_sound hR _ _ _ _ _ ?_
    by_cases hvl : v < g.states.toNat
    rotate_left
    · have e : v = g.states.toNat := by omega
      subst e
      conv => whnf
      repeat' ((first | contradiction | (refine And.intro (fun hb => ?_) (fun hb => ?_) <;> first | contradiction | ((try simp only [SB, reduceCtorEq] at hb); try (exfalso; first | contradiction | omega))) | refine G2 ?_ | rw [ints_at (by omega)] | rw [ints_at0 (by omega)] | rw [ints_at' (by omega) (by omega)] | refine G1 ?_ | fail) <;> conv => whnf)
      refine ⟨(p + 1, b), ⟨hlt, ?_⟩, by dsimp only; omega, [some 0, some 1, some 2, some 3], rfl, rfl, ?_, ?_⟩
      · dsimp only; rw [Nat.add_mul, Nat.one_mul]; exact hbv
      · refine And.intro (And.intro rfl ?_) (And.intro (And.intro rfl rfl) (And.intro (And.intro rfl rfl) (And.intro (And.intro rfl rfl) trivial)))
        dsimp only; rw [Nat.add_mul, Nat.one_mul]
      · exact ⟨.inl rfl, .inl rfl, .inl rfl, .inl rfl, rfl, rfl, rfl, .inl rfl, .inl rfl, rfl, .inl rfl, trivial⟩
    have hne := natsI_at0 (l := nextM D g.states.toNat P (k + 1) (p + 1)) (i := p) (by rw [length_nextM]; exact hlt)
    rw [nextM_at hlt] at hne
    have hbit := bit_lvl (D := D) (n := g.states.toNat) (k := k + 1) (p := p) (v := v)
    have hidx : ((p : Nat) : Int) * g.states + ((v : Nat) : Int) = ((p * g.states.toNat + v : Nat) : Int) := by rw [Int.natCast_add, Int.natCast_mul, ← hgs]
    have hpos : 0 ≤ ((p : Nat) : Int) * g.states := by rw [hgs, ← Int.natCast_mul]; omega
    have hm : p * g.states.toNat + v < M := by omega
    generalize hmm : p * g.states.toNat + v = m at *
    have hms : p * g.states.toNat + (v + 1) = m + 1 := by omega
    have hou := ints_at0 (xs := outM D M (k + 1) m) (i := m) (by rw [length_outM]; exact hm)
    have hyes := outM_yes (D := D) (k := k + 1) hm
    have hno := outM_no (D := D) (k := k + 1) hm
    conv => whnf
    repeat' ((first | contradiction | (refine And.intro (fun hb => ?_) (fun hb => ?_) <;> first | contradiction | ((try simp only [SB, reduceCtorEq] at hb); try (exfalso; first | contradiction | omega))) | rw [hne] | rw [hidx] | rw [hou] | refine G2 ?_ | rw [ints_at (by omega)] | rw [ints_at0 (by omega)] | rw [ints_at' (by omega) (by omega)] | refine G1 ?_ | refine ⟨_, _, RHas_mk b3 (by omega) (by omega), ?_⟩ | fail) <;> conv => whnf)
    · have hDm : D m = ((k + 1 : Nat) : Int) := (hbit.1 hb).2
      refine ⟨(v + 1, true), ⟨hvl, fun _ => ⟨m, by dsimp only; omega, hDm⟩, fun _ => rfl⟩, by dsimp only; omega, [some 0, some 1, some 2, some 3], rfl, rfl, ?_, ?_⟩
      · refine And.intro (And.intro rfl (ints_set.trans (congrArg ints ?_))) (And.intro (And.intro rfl rfl) (And.intro (And.intro rfl rfl) (And.intro (And.intro rfl rfl) trivial)))
        dsimp only
        rw [hms]
        exact hyes hDm
      · exact ⟨.inl rfl, .inl rfl, .inl rfl, .inl rfl, rfl, rfl, rfl, .inl rfl, .inl rfl, rfl, .inl rfl, .inl rfl, trivial⟩
    · have hDm : D m ≠ ((k + 1 : Nat) : Int) := fun h => by
        have h1 := hbit.2 ⟨hvl, h⟩
        have h2 : (lvl D g.states.toNat (k + 1) p).testBit v = false := hb
        rw [h2] at h1
        cases h1
      refine ⟨(v + 1, b), ⟨hvl, ?_⟩, by dsimp only; omega, [some 0, some 1, some 2, some 3], rfl, rfl, ?_, ?_⟩
      · dsimp only
        rw [hms]
        exact hbv.trans ⟨fun ⟨x, hx, hd⟩ => ⟨x, by omega, hd⟩, fun ⟨x, hx, hd⟩ => ⟨x, by
          have : x ≠ m := fun e => hDm (e ▸ hd)
          omega, hd⟩⟩
      · refine And.intro (And.intro rfl (congrArg ints ?_)) (And.intro (And.intro rfl rfl) (And.intro (And.intro rfl rfl) (And.intro (And.intro rfl rfl) trivial)))
        dsimp only
        rw [hms]
        exact hno hDm
      · exact ⟨.inl rfl, .inl rfl, .inl rfl, .inl rfl, rfl, rfl, rfl, .inl rfl, .inl rfl, rfl, .inl rfl, .inl rfl, trivial⟩
def c_spec_l6Way : ICode := (.seq (.reg [O1 4 (.box 5) 0, O1 5 (.box 2) 1, Ol 8 .mv [.c .snil]]) (.seq (.reg [O1 18 (.ldn 5) 4, O1 19 (.ldn 2) 5, O1 20 .mv 3, O3 21 (.call 172) 18 19 20, O1 9 .mv 21]) (.seq (.reg [O1 22 (.ldn 5) 4, Ol 23 (.call 170) [.t 22, cb false], O1 10 .mv 23]) (.seq (.reg [Ol 11 .mv [ci (-1)]]) (.seq (.seq (.reg [Ol 12 .mv [ci 0]]) (.block 0 (.loop (.seq (.seq (.reg [O1 24 .mv 12, O1 25 .mv 2, O1 26 .len 25, O2 27 (.bin .lss) 24 26]) (.cond (.t 27) .skip (.exit 0))) (.seq (.block 1 (.seq (.reg [O1 30 .mv 2, O1 31 .mv 12, O2 32 (.iadr 1) 30 31, O1 33 .ld1 32, O1 13 .mv 33]) (.seq (.drw [O1 34 .mv 9, O1 35 .mv 13, O2 36 (.iadr 1) 34 35, O1 37 .ld1 36, Ol 38 (.bin .geq) [.t 37, ci 0], O1 39 .mv 38, Og 40 .mv [.t 11] 39 true, Og 41 (.bin .lss) [.t 40, ci 0] 39 true, Og 42 .mv [.t 41] 39 true, Og 43 .mv [.t 9] 42 false, Og 44 .mv [.t 13] 42 false, Og 45 (.iadr 1) [.t 43, .t 44] 42 false, Og 46 .ld1 [.t 45] 42 false, Og 47 .mv [.t 9] 42 false, Og 48 .mv [.t 11] 42 false, Og 49 (.iadr 1) [.t 47, .t 48] 42 false, Og 50 .ld1 [.t 49] 42 false, Og 51 (.bin .lss) [.t 46, .t 50] 42 false, Og 52 .pick [.t 42, cb true, .t 51] 39 true, Og 53 .mv [.t 52] 39 true, Og 54 .mv [.t 9] 53 false, Og 55 .mv [.t 13] 53 false, Og 56 (.iadr 1) [.t 54, .t 55] 53 false, Og 57 .ld1 [.t 56] 53 false, Og 58 .mv [.t 9] 53 false, Og 59 .mv [.t 11] 53 false, Og 60 (.iadr 1) [.t 58, .t 59] 53 false, Og 61 .ld1 [.t 60] 53 false, Og 62 (.bin .eql) [.t 57, .t 61] 53 false, Og 63 .mv [.t 62] 53 false, Og 64 .mv [.t 13] 63 true, Og 65 (.fadr 1) [.t 4] 63 true, Og 66 .ld1 [.t 65] 63 true, Og 67 (.bin .rem) [.t 64, .t 66] 63 true, Og 68 .mv [.t 11] 63 true, Og 69 (.fadr 1) [.t 4] 63 true, Og 70 .ld1 [.t 69] 63 true, Og 71 (.bin .rem) [.t 68, .t 70] 63 true, Og 72 (.bin .lss) [.t 67, .t 71] 63 true, Og 73 .pick [.t 63, .t 72, cb false] 53 false, Og 74 .pick [.t 53, cb true, .t 73] 39 true, Ol 75 .pick [.t 39, .t 74, cb false]] (unB [0, 0, 3, 7, 15, 31, 63, 127, 255, 511, 511, 2047, 4095, 511, 511, 25087, 57855, 131071, 262143, 524287, 1048575, 1048575, 4194303, 8388607, 1048575, 1048575, 51380223, 118489087, 268435455, 536870911, 1073741823, 1073741823, 3221225471, 8589934591, 1073741823, 1073741823, 35433480191, 121332826111, 274877906943, 549755813887, 1099511627775, 2199023255551] 0) true true) (.cond (.t 75) (.reg [O1 76 .mv 13, O1 11 .mv 76]) .skip)))) (.reg [O1 28 .mv 12, Ol 29 (.bin .add) [.t 28, ci 1], O1 12 .mv 29])))))) (.seq (.reg [O1 77 .mv 11, O1 78 (.fadr 1) 4, O1 79 .ld1 78, O2 80 (.bin .rem) 77 79, O1 81 (.bsl 1) 80, O1 14 .mv 81]) (.seq (.block 2 (.loop (.seq (.seq (.reg [O1 82 .mv 11, O1 83 .mv 3, O2 84 (.bin .neq) 82 83]) (.cond (.t 84) .skip (.exit 2))) (.block 3 (.seq (.drw [O1 85 .mv 10, O1 86 .mv 11, O1 87 (.fadr 1) 4, O1 88 .ld1 87, O2 89 (.bin .rem) 86 88, O1 90 (.call 123) 89, O1 91 (.ldn 2) 5, O1 92 .mv 11, O1 93 (.fadr 1) 4, O1 94 .ld1 93, O2 95 (.bin .quo) 92 94, O2 96 (.call 93) 91 95, O3 97 (.call 173) 85 90 96, O1 15 .mv 97] (unB [0, 0, 0, 4, 14, 30, 0, 0, 0, 256, 896, 2046, 4095, 8191] 0) true true) (.seq (.drw [O1 98 (.ldn 2) 5, O1 99 .mv 11, O1 100 (.fadr 1) 4, O1 101 .ld1 100, O2 102 (.bin .quo) 99 101, O2 103 (.call 92) 98 102, O1 16 .mv 103] (unB [0, 0, 0, 4, 14, 31, 63] 0) true true) (.seq (.seq (.reg [Ol 17 .mv [ci 0]]) (.block 4 (.loop (.seq (.seq (.reg [O1 104 .mv 17, O1 105 (.fadr 1) 4, O1 106 .ld1 105, O2 107 (.bin .lss) 104 106]) (.cond (.t 107) .skip (.exit 4))) (.seq (.block 5 (.seq (.drw [O1 110 .mv 15, O1 111 .mv 17, O2 112 (.call 73) 110 111, O1 113 .mv 112, Og 114 .mv [.t 9] 113 true, Og 115 .mv [.t 16] 113 true, Og 116 (.fadr 1) [.t 4] 113 true, Og 117 .ld1 [.t 116] 113 true, Og 118 (.bin .mul) [.t 115, .t 117] 113 true, Og 119 .mv [.t 17] 113 true, Og 120 (.bin .add) [.t 118, .t 119] 113 true, Og 121 (.iadr 1) [.t 114, .t 120] 113 true, Og 122 .ld1 [.t 121] 113 true, Og 123 .mv [.t 9] 113 true, Og 124 .mv [.t 11] 113 true, Og 125 (.iadr 1) [.t 123, .t 124] 113 true, Og 126 .ld1 [.t 125] 113 true, Og 127 (.bin .sub) [.t 126, ci 1] 113 true, Og 128 (.bin .eql) [.t 122, .t 127] 113 true, Ol 129 .pick [.t 113, .t 128, cb false]] (unB [0, 0, 3, 7, 15, 15, 15, 79, 239, 15, 1007, 2047, 4095, 15, 15, 24591, 57359, 122895, 262143, 524287] 0) true true) (.cond (.t 129) (.seq (.reg [O1 130 .mv 16, O1 131 (.fadr 1) 4, O1 132 .ld1 131, O2 133 (.bin .mul) 130 132, O1 134 .mv 17, O2 135 (.bin .add) 133 134, O1 11 .mv 135]) (.exit 4)) .skip))) (.reg [O1 108 .mv 17, Ol 109 (.bin .add) [.t 108, ci 1], O1 17 .mv 109])))))) (.reg [O1 136 .mv 14, O1 137 .mv 11, O1 138 (.fadr 1) 4, O1 139 .ld1 138, O2 140 (.bin .rem) 137 139, O1 141 (.bslv 1) 140, O2 142 (.app 1 8) 136 141, O1 14 .mv 142])))))))) (.seq (.reg [O1 143 .mv 14, O1 8 .mv 143]) .ret))))))))
theorem b_spec_l6Way : Body Try.prog 100 144 c_spec_l6Way [(.t 8)] := body_mk Try.func100 (by kernel_rfl) (by decide)
def RWayS (xs : List AV) (r : AV) (objs : List AObj) : Prop := ∃ (a : AutoD) (s l : List Int) (src : List Nat) (t : Nat), xs = [.agg (genRow (genOfD a)), wordV s l, .val (ints (natsI src)), .int .i64 ((t : Nat) : Int)] ∧
  AutoOk a ∧ wordOk s l a.letters = true ∧ t < (s.length + l.length) * a.states.toNat ∧ (∀ p ∈ src, p < (s.length + l.length) * a.states.toNat) ∧ src.length ≤ 31 ∧ (∀ i j, i < j → j < src.length → src.getD i 0 % a.states.toNat < src.getD j 0 % a.states.toNat) ∧ (∃ x ∈ src, Rel1 (PA (genOfD a) s l) x t) ∧
  r = .ref 0 0 (wayS a s l src t).length ∧ objs = [.arr 1 (ints (wayS a s l src t))]
theorem RWayS_eq {xs : List AV} {a : AutoD} {s l : List Int} {src : List Nat} {t : Nat} (hx : xs = [.agg (genRow (genOfD a)), wordV s l, .val (ints (natsI src)), .int .i64 ((t : Nat) : Int)]) (h1 : AutoOk a) (h2 : wordOk s l a.letters = true)
    (h3 : t < (s.length + l.length) * a.states.toNat) (h4 : ∀ p ∈ src, p < (s.length + l.length) * a.states.toNat) (h5 : src.length ≤ 31) (h7 : ∀ i j, i < j → j < src.length → src.getD i 0 % a.states.toNat < src.getD j 0 % a.states.toNat) (h6 : ∃ x ∈ src, Rel1 (PA (genOfD a) s l) x t) :
    RWayS xs (.ref 0 0 (wayS a s l src t).length) [.arr 1 (ints (wayS a s l src t))] := ⟨a, s, l, src, t, hx, h1, h2, h3, h4, h5, h7, h6, rfl, rfl⟩
theorem farG_at {g : GenD} {s l : List Int} {t x : Nat} (h : x < (s.length + l.length) * g.states.toNat) : (farG g s l t).getD x 0 = toD (PA g s l) t x := by
  unfold farG
  rw [List.getD_eq_getElem?_getD, List.getElem?_map, List.getElem?_range h]
  rfl
@[simp] theorem length_farG (g : GenD) (s l : List Int) (t : Nat) : (farG g s l t).length = (s.length + l.length) * g.states.toNat := by simp [farG]
set_option maxHeartbeats 16000000 in
theorem s_spec_l6Way : PureSound Try.prog 100 RWayS := by
  have hR : Rely Try.prog (ctxOf [(172, .pure RFarS), (170, .pure RSucc), (173, .pure RStepG), (123, .pure RBit), (93, .pure RL3At), (92, .pure RAfter), (73, .pure RHas)]) :=
    rely_cons b_spec_l6Far.has s_spec_l6Far (rely_cons b_spec_l6Succ.has s_spec_l6Succ (rely_cons b_spec_l6Step.has s_spec_l6Step (rely_cons b_spec_l1Bit.has s_spec_l1Bit (rely_cons b_spec_l3At.has s_spec_l3At (rely_cons b_spec_l6After.has s_spec_l6After (rely_cons b_spec_l1Has.has s_spec_l1Has (rely_nil mixed)))))))
  refine pure_of_aw b_spec_l6Way ?_
  rintro xs r objs ⟨a, s, l, src, t, rfl, ha, hwk, ht0, hsrc0, hsl, hasc0, hex, rfl, rfl⟩ -
  have hg := genOf_ok ha
  obtain ⟨hw, hs, hl, hl0⟩ := let_ok hwk
  obtain ⟨x0, k0, hx0, hW, hd0, hpick⟩ := wayN_ok hex
  have hres : wayS a s l src t = (wayP (PA (genOfD a) s l) (toD (PA (genOfD a) s l) t) k0 x0).map fun x => ((x % (genOfD a).states.toNat : Nat) : Int) := by
    unfold wayS
    rw [hW]
    rfl
  have ht : t < (s.length + l.length) * (genOfD a).states.toNat := ht0
  have hsrc : ∀ p ∈ src, p < (s.length + l.length) * (genOfD a).states.toNat := hsrc0
  have hasc : ∀ i j, i < j → j < src.length → src.getD i 0 % (genOfD a).states.toNat < src.getD j 0 % (genOfD a).states.toNat := hasc0
  rw [hres]
  clear hres hW ht0 hsrc0 hasc0 hex hwk
  generalize genOfD a = g at *
  clear ha
  have hst := hg.1.2.1
  have hNN : (s.length + l.length) * g.states.toNat ≤ 80 * 31 := Nat.mul_le_mul (by omega) (by omega)
  have hn0 : 0 < g.states.toNat := by
    rcases Nat.eq_zero_or_pos g.states.toNat with h | h
    · rw [h, Nat.mul_zero] at ht; omega
    · exact h
  have hgs : g.states = ((g.states.toNat : Nat) : Int) := by omega
  have hquo : ∀ x : Nat, x < (s.length + l.length) * g.states.toNat → IntKind.i64.wrap (Int.tdiv ((x : Nat) : Int) g.states) = ((x / g.states.toNat : Nat) : Int) := fun x hx => quo_nat (by omega) (by omega)
  have hrem : ∀ x : Nat, Int.tmod ((x : Nat) : Int) g.states = ((x % g.states.toNat : Nat) : Int) := fun x => rem_nat (by omega)
  have hD : ∀ x k, toD (PA g s l) t x = ((k + 1 : Nat) : Int) → ∃ y, PA g s l x y ∧ toD (PA g s l) t y = (k : Int) := fun x k hk => toD_pred hk
  have hz : ∀ x, toD (PA g s l) t x = 0 ↔ x = t := fun x => toD_zero
  have hin := fun x => toD_in (x := x) hg ht
  have hFl := length_farG g s l t
  have hFi := (length_ints (farG g s l t)).trans hFl
  have hFa : ∀ x, x < (s.length + l.length) * g.states.toNat → (ints (farG g s l t))[((x : Nat) : Int).toNat]? = some [.int .i64 (toD (PA g s l) t x)] := fun x hx => by
    rw [ints_at (by omega), farG_at hx]
  have hFar : ∀ xs, xs = [.agg (genRow g), wordV s l, .int .i64 ((t : Nat) : Int)] → RFarS xs (.ref 0 0 ((s.length + l.length) * g.states.toNat)) [.arr 1 (ints (farG g s l t))] := fun xs h => RFarS_eq h hg hw hs hl hl0 ht
  generalize hDD : toD (PA g s l) t = D at *
  generalize farG g s l t = F at *
  generalize hM : (s.length + l.length) * g.states.toNat = M at *
  have hsi := (length_ints (natsI src)).trans (length_natsI _)
  have hni := length_natsI src
  refine ⟨by simp, vc2_sound hR _ _ _ _ _ ?_⟩
  conv => whnf
  repeat' ((first | contradiction | (refine And.intro (fun hb => ?_) (fun hb => ?_) <;> first | contradiction | ((try simp only [SB, reduceCtorEq] at hb); try (exfalso; first | contradiction | omega))) | refine G2 ?_ | rw [ints_at (by omega)] | rw [ints_at0 (by omega)] | rw [ints_at' (by omega) (by omega)] | refine G1 ?_ | refine ⟨_, _, hFar _ rfl, ?_⟩ | refine ⟨_, _, RSucc_eq rfl hg, ?_⟩ | fail) <;> conv => whnf)
  refine Lp.intro (α := Nat) (fun i => i ≤ src.length) (fun i => src.length - i) (fun i => [(2, .val (ints (natsI src))), (3, .int .i64 ((t : Nat) : Int)), (4, .rptr (genRow g) 0), (5, wordP s l), (9, .val (ints F)), (10, .val (ints (natsI (succL g false g.edges.length)))), (11, .int .i64 (pickI D src i)), (12, .int .i64 i)]) (fun _ => []) ?_ ?_
  · refine ⟨0, Nat.zero_le _, [], rfl, rfl, trivial, ?_⟩
    exact ⟨.inl rfl, .inl rfl, .inr rfl, .inr rfl, .inr (snap_all rfl hFi), .inr (snap_all rfl (by simp [ints])), .inl rfl, .inl rfl, trivial⟩
  intro i hi
  refine vc2_sound hR _ _ _ _ _ ?_
  by_cases hlt : i < src.length
  · have hm : src.getD i 0 < M := hsrc _ (by rw [List.getD_eq_getElem?_getD, List.getElem?_eq_getElem hlt]; exact List.getElem_mem hlt)
    have ha1 := hFa _ hm
    have hp := pickI_cases (D := D) (L := src) (i := i)
    have hnext : pickI D src (i + 1) = if 0 ≤ D (src.getD i 0) ∧ (pickI D src i < 0 ∨ D (src.getD i 0) < D (pickI D src i).toNat) then ((src.getD i 0 : Nat) : Int) else pickI D src i := rfl
    generalize D (src.getD i 0) = dv at *
    rcases hp with ⟨hp0, _⟩ | ⟨j, hj, hp0, _⟩
    · rw [hp0] at hnext ⊢
      conv => whnf
      repeat' ((first | contradiction | (refine And.intro (fun hb => ?_) (fun hb => ?_) <;> first | contradiction | ((try simp only [SB, reduceCtorEq] at hb); try (exfalso; first | contradiction | omega))) | rw [natsI_at hlt] | rw [ha1] | refine G2 ?_ | rw [ints_at (by omega)] | rw [ints_at0 (by omega)] | rw [ints_at' (by omega) (by omega)] | refine G1 ?_ | fail) <;> conv => whnf)
      all_goals
        refine ⟨i + 1, hlt, by omega, [], rfl, rfl, trivial, ?_⟩
        exact ⟨.inl rfl, .inl rfl, .inl rfl, .inl rfl, .inl rfl, .inl rfl, .inl (congrArg (AV.int .i64) (by (try dsimp only); rw [hnext]; first | rw [if_pos ⟨by omega, .inl (by omega)⟩] | rw [if_neg (fun h => by omega)])), .inl rfl, trivial⟩
    · have hm2 : src.getD j 0 < M := hsrc _ (by rw [List.getD_eq_getElem?_getD, List.getElem?_eq_getElem (show j < src.length by omega)]; exact List.getElem_mem _)
      have ha2 := hFa _ hm2
      have hji := hasc j i hj hlt
      rw [hp0, Int.toNat_natCast] at hnext
      rw [hp0]
      generalize D (src.getD j 0) = dw at *
      have hr1 := hrem (src.getD i 0)
      have hr2 := hrem (src.getD j 0)
      generalize src.getD i 0 % g.states.toNat = r1 at *
      generalize src.getD j 0 % g.states.toNat = r2 at *
      conv => whnf
      repeat' ((first | contradiction | (refine And.intro (fun hb => ?_) (fun hb => ?_) <;> first | contradiction | ((try simp only [SB, reduceCtorEq] at hb); try (exfalso; first | contradiction | omega))) | rw [natsI_at hlt] | rw [ha1] | rw [ha2] | rw [hr1] | rw [hr2] | refine G2 ?_ | rw [ints_at (by omega)] | rw [ints_at0 (by omega)] | rw [ints_at' (by omega) (by omega)] | refine G1 ?_ | fail) <;> conv => whnf)
      all_goals
        refine ⟨i + 1, hlt, by omega, [], rfl, rfl, trivial, ?_⟩
        exact ⟨.inl rfl, .inl rfl, .inl rfl, .inl rfl, .inl rfl, .inl rfl, .inl (congrArg (AV.int .i64) (by (try dsimp only); rw [hnext]; first | rw [if_pos ⟨by omega, .inr (by omega)⟩] | rw [if_neg (by omega)])), .inl rfl, trivial⟩
  obtain rfl : i = src.length := by omega
  clear hi hlt
  rw [hpick]
  have hx0M : x0 < M := hsrc _ hx0
  have hr0 := hrem x0
  generalize hr00 : x0 % g.states.toNat = r0 at *
  conv => whnf
  repeat' ((first | contradiction | (refine And.intro (fun hb => ?_) (fun hb => ?_) <;> first | contradiction | ((try simp only [SB, reduceCtorEq] at hb); try (exfalso; first | contradiction | omega))) | rw [hr0] | refine G2 ?_ | rw [ints_at (by omega)] | rw [ints_at0 (by omega)] | rw [ints_at' (by omega) (by omega)] | refine G1 ?_ | fail) <;> conv => whnf)
  refine Lp.intro (α := Nat × Nat × List Nat) (fun c => c.2.1 < M ∧ D c.2.1 = ((c.1 : Nat) : Int) ∧ c.2.2 ++ wayP (PA g s l) D c.1 c.2.1 = wayP (PA g s l) D k0 x0) (fun c => c.1)
    (fun c => [(3, .int .i64 ((t : Nat) : Int)), (4, .rptr (genRow g) 0), (5, wordP s l), (9, .val (ints F)), (10, .val (ints (natsI (succL g false g.edges.length)))), (11, .int .i64 ((c.2.1 : Nat) : Int)), (14, .ref 0 0 (c.2.2.length + 1))])
    (fun c => [some (.arr 1 (ints ((c.2.2 ++ [c.2.1]).map fun x => ((x % g.states.toNat : Nat) : Int))))]) ?_ ?_
  · refine ⟨(k0, x0, []), ⟨hx0M, hd0, rfl⟩, [some 0], rfl, rfl, And.intro (And.intro rfl (by show [[AV.int .i64 ((r0 : Nat) : Int)]] = ints [((x0 % g.states.toNat : Nat) : Int)]; rw [hr00]; rfl)) trivial, ?_⟩
    exact ⟨.inl rfl, .inl rfl, .inl rfl, .inl rfl, .inl rfl, .inl rfl, rfl, trivial⟩
  rintro ⟨k, x, pre⟩ ⟨hx, hd, hcat⟩
  dsimp only at hx hd hcat ⊢
  have hax := hFa _ hx
  have hkb := (hin x (by rw [hd]; omega)).2
  rw [hd] at hax hkb
  refine vc2_sound hR _ _ _ _ _ ?_
  cases k with
  | zero =>
    obtain rfl : x = t := (hz x).1 hd
    conv => whnf
    repeat' ((first | contradiction | (refine And.intro (fun hb => ?_) (fun hb => ?_) <;> first | contradiction | ((try simp only [SB, reduceCtorEq] at hb); try (exfalso; first | contradiction | omega))) | refine G2 ?_ | rw [ints_at (by omega)] | rw [ints_at0 (by omega)] | rw [ints_at' (by omega) (by omega)] | refine G1 ?_ | fail) <;> conv => whnf)
    refine ⟨.inl rfl, ?_⟩
    conv => whnf
    have e : pre ++ [x] = wayP (PA g s l) D k0 x0 := hcat
    refine ⟨[some 0], ⟨rfl, And.intro (And.intro rfl (by rw [e])) trivial⟩, congrArg (AV.ref 0 0) ?_, rfl, by simp [AObj.nov, ints_nov]⟩
    rw [← e]
    simp
  | succ k =>
    have hxt : ((x : Nat) : Int) ≠ ((t : Nat) : Int) := fun h => by
      have := (hz x).2 (by omega)
      omega
    have hq := hquo x hx
    have hr := hrem x
    have hxe := pt_eq (n := g.states.toNat) (x := x)
    have hp0 : x / g.states.toNat < s.length + l.length := Nat.div_lt_of_lt_mul (by rw [Nat.mul_comm, hM]; exact hx)
    have hrl := Nat.mod_lt x hn0
    have hcand : ∀ v, v < g.states.toNat → ((stepB g false (2 ^ (x % g.states.toNat)) (letN s l (x / g.states.toNat)).toNat).testBit v = true ↔ PA g s l x (nextN s l (x / g.states.toNat) * g.states.toNat + v)) := fun v hv => by
      have hlp := hw _ hp0
      rw [show stepB g false (2 ^ (x % g.states.toNat)) (letN s l (x / g.states.toNat)).toNat = stepG g (2 ^ (x % g.states.toNat)) (letN s l (x / g.states.toNat)).toNat from rfl, bit_stepG hg (by omega)]
      unfold PA
      constructor
      · rintro ⟨e, he, h1, h2, h3⟩
        rw [Nat.testBit_two_pow, decide_eq_true_eq] at h2
        exact ⟨hp0, e, he, by omega, h2.symm, by rw [h3]⟩
      · rintro ⟨_, e, he, h1, h2, h3⟩
        refine ⟨e, he, by omega, ?_, by omega⟩
        rw [h2, Nat.testBit_two_pow_self]
    have hdst : ∀ y, PA g s l x y → ∃ v, v < g.states.toNat ∧ y = nextN s l (x / g.states.toNat) * g.states.toNat + v := fun y hy => by
      obtain ⟨_, e, he, _, _, rfl⟩ := hy
      have hi := gmem hg he
      unfold GIn at hi
      exact ⟨e.dst.toNat, by omega, rfl⟩
    generalize x / g.states.toNat = p0 at *
    generalize x % g.states.toNat = r at *
    have hnx := nextN_lt (s := s) hp0 hl0
    have hlp := hw p0 hp0
    have hlx : letN s l p0 = (((letN s l p0).toNat : Nat) : Int) := by omega
    have hp31 : 2 ^ g.states.toNat ≤ 2 ^ 31 := Nat.pow_le_pow_right (by decide) (by omega)
    have b0 : 2 ^ r < 2 ^ 31 := Nat.pow_lt_pow_right (by decide) (by omega)
    have b4 : stepB g false (2 ^ r) (letN s l p0).toNat < 2 ^ 31 := Nat.lt_of_lt_of_le (stpI_lt hg) hp31
    conv => whnf
    repeat' ((first | contradiction | (refine And.intro (fun hb => ?_) (fun hb => ?_) <;> first | contradiction | ((try simp only [SB, reduceCtorEq] at hb); try (exfalso; first | contradiction | omega))) | rw [hq] | rw [hr] | refine G2 ?_ | rw [ints_at (by omega)] | rw [ints_at0 (by omega)] | rw [ints_at' (by omega) (by omega)] | refine G1 ?_ | refine ⟨_, rfl, ?_⟩ | refine ⟨_, _, RBit_mk (by omega) (by omega), ?_⟩ | refine ⟨_, _, RL3At_eq (s := s) (l := l) (p := p0) rfl (by omega) (by omega) hp0, ?_⟩ | refine ⟨_, _, RAfter_eq (s := s) (l := l) (p := p0) rfl (by omega) (by omega) hp0, ?_⟩ | refine ⟨_, _, RStepG_eq (g := g) (bk := false) (X := 2 ^ r) (x := (letN s l p0).toNat) (args_cons rfl (args_cons rfl (args_cons (congrArg (AV.int .i64) hlx) rfl))) hg b0 (by omega), ?_⟩ | fail) <;> conv => whnf)
    generalize stepB g false (2 ^ r) (letN s l p0).toNat = stp at *
    generalize nextN s l p0 = q at *
    have hqn : (q + 1) * g.states.toNat ≤ (s.length + l.length) * g.states.toNat := Nat.mul_le_mul_right _ hnx
    rw [hM, Nat.add_mul, Nat.one_mul] at hqn
    refine Lp.intro (α := Nat) (fun v => v ≤ g.states.toNat ∧ ∀ v', v' < v → ¬ (PA g s l x (q * g.states.toNat + v') ∧ D (q * g.states.toNat + v') = ((k : Nat) : Int))) (fun v => g.states.toNat - v)
      (fun v => [(3, .int .i64 ((t : Nat) : Int)), (4, .rptr (genRow g) 0), (5, wordP s l), (9, .val (ints F)), (10, .val (ints (natsI (succL g false g.edges.length)))), (11, .int .i64 ((x : Nat) : Int)), (14, .ref 0 0 (pre.length + 1)), (15, .int .i64 ((stp : Nat) : Int)), (16, .int .i64 ((q : Nat) : Int)), (17, .int .i64 ((v : Nat) : Int))])
      (fun _ => [some (.arr 1 (ints ((pre ++ [x]).map fun x => ((x % g.states.toNat : Nat) : Int))))]) ?_ ?_
    · refine ⟨0, ⟨Nat.zero_le _, fun v' h => by omega⟩, [some 0], rfl, rfl, And.intro (And.intro rfl rfl) trivial, ?_⟩
      exact ⟨.inl rfl, .inl rfl, .inl rfl, .inl rfl, .inl rfl, .inl rfl, rfl, .inl rfl, .inl rfl, .inl rfl, trivial⟩
    rintro v ⟨hv, hno⟩
    refine vc2_sound hR _ _ _ _ _ ?_
    by_cases hvl : v < g.states.toNat
    rotate_left
    · exfalso
      obtain ⟨y, hy, hyd⟩ := hD _ _ hd
      obtain ⟨v', hv', rfl⟩ := hdst y hy
      exact hno v' (by omega) ⟨hy, hyd⟩
    have hc := hcand v hvl
    have hidx : ((q : Nat) : Int) * g.states + ((v : Nat) : Int) = ((q * g.states.toNat + v : Nat) : Int) := by rw [Int.natCast_add, Int.natCast_mul, ← hgs]
    have hpos : 0 ≤ ((q : Nat) : Int) * g.states := by rw [hgs, ← Int.natCast_mul]; omega
    have hm : q * g.states.toNat + v < M := by omega
    have ham := hFa _ hm
    have hmin : ∀ z, PA g s l x z → D z = ((k : Nat) : Int) → q * g.states.toNat + v ≤ z := fun z hz1 hz2 => by
      obtain ⟨v', hv', rfl⟩ := hdst z hz1
      have : ¬ v' < v := fun h => hno v' h ⟨hz1, hz2⟩
      omega
    have hnon : ¬ (PA g s l x (q * g.states.toNat + v) ∧ D (q * g.states.toNat + v) = ((k : Nat) : Int)) → ∀ v', v' < v + 1 → ¬ (PA g s l x (q * g.states.toNat + v') ∧ D (q * g.states.toNat + v') = ((k : Nat) : Int)) := fun h v' hv' => by
      by_cases e : v' = v
      · subst e; exact h
      · exact hno v' (by omega)
    have hmr := hrem (q * g.states.toNat + v)
    rw [show (q * g.states.toNat + v) % g.states.toNat = v from pt_mod hvl] at hmr
    have hmod : (q * g.states.toNat + v) % g.states.toNat = v := pt_mod hvl
    generalize hmm : q * g.states.toNat + v = m at *
    have hnxt := fun h1 h2 => nxtP_eq (A := PA g s l) (D := D) (k := k) (x := x) (y := m) h1 h2 hmin
    have hkb0 := (hin x0 (by rw [hd0]; omega)).2
    rw [hd0] at hkb0
    have hpl := congrArg List.length hcat
    rw [List.length_append, wayP_len, wayP_len] at hpl
    have hlen : (ints ((pre ++ [x]).map fun x => ((x % g.states.toNat : Nat) : Int))).length = pre.length + 1 := by simp [ints]
    generalize hdm : D m = dm at *
    conv => whnf
    repeat' ((first | contradiction | (refine And.intro (fun hb => ?_) (fun hb => ?_) <;> first | contradiction | ((try simp only [SB, reduceCtorEq] at hb); try (exfalso; first | contradiction | omega))) | rw [hidx] | rw [ham] | rw [hax] | rw [hmr] | refine G2 ?_ | rw [ints_at (by omega)] | rw [ints_at0 (by omega)] | rw [ints_at' (by omega) (by omega)] | refine G1 ?_ | refine ⟨_, _, RHas_mk b4 (by omega) (by omega), ?_⟩ | fail) <;> conv => whnf)
    · have hPA := hc.1 (by assumption)
      have hdk : dm = ((k : Nat) : Int) := by omega
      have hnx2 := hnxt hPA hdk
      have hmap : ((pre ++ [x]) ++ [m]).map (fun x => ((x % g.states.toNat : Nat) : Int)) = (pre ++ [x]).map (fun x => ((x % g.states.toNat : Nat) : Int)) ++ [((v : Nat) : Int)] := by
        rw [List.map_append]
        show _ ++ [((m % g.states.toNat : Nat) : Int)] = _
        rw [hmod]
      refine ⟨(k, m, pre ++ [x]), ⟨hm, hdm.trans hdk, by rw [← hcat]; simp [wayP, hnx2]⟩, by dsimp only; omega, [some 1], rfl, rfl, And.intro (And.intro rfl ?_) trivial, ?_⟩
      · exact (ints_app (l := (pre ++ [x]).map fun x => ((x % g.states.toNat : Nat) : Int)) (by simp)).trans (congrArg ints hmap.symm)
      · exact ⟨.inl rfl, .inl rfl, .inl rfl, .inl rfl, .inl rfl, .inl rfl, congrArg (AV.ref 1 0) (by simp), trivial⟩
    · refine ⟨v + 1, ⟨hvl, hnon (fun h => by have := h.2; omega)⟩, by omega, [some 0], rfl, rfl, And.intro (And.intro rfl rfl) trivial, ?_⟩
      exact ⟨.inl rfl, .inl rfl, .inl rfl, .inl rfl, .inl rfl, .inl rfl, rfl, .inl rfl, .inl rfl, .inl rfl, trivial⟩
    · refine ⟨v + 1, ⟨hvl, hnon (fun h => Bool.noConfusion ((hc.2 h.1).symm.trans (show stp.testBit v = false by assumption)))⟩, by omega, [some 0], rfl, rfl, And.intro (And.intro rfl rfl) trivial, ?_⟩
      exact ⟨.inl rfl, .inl rfl, .inl rfl, .inl rfl, .inl rfl, .inl rfl, rfl, .inl rfl, .inl rfl, .inl rfl, trivial⟩
def c_spec_RunOf : ICode := (.seq (.reg [O1 2 (.box 4) 0, O1 3 (.box 2) 1, O0 4 (.alc [.snil, (.int .i64 0)]), Ol 5 .mv [cb false]]) (.seq (.seq (.reg [O1 17 (.ldn 4) 2, O1 18 (.ldn 2) 3, O2 19 (.call 40) 17 18, O1 20 .not 19]) (.cond (.t 20) (.seq (.reg [O0 21 (.bld [.snil, (.int .i64 0)] []), S2 (.st 2) 4 21, Ol 5 .mv [cb false]]) .ret) .skip)) (.seq (.reg [O1 22 (.ldn 4) 2, O1 23 (.call 98) 22, O0 6 (.alc [(.int .i64 0), (.int .i64 0), (.int .i64 0), (.int .i64 0), .snil]), S2 (.st 5) 6 23]) (.seq (.reg [O1 24 (.ldn 5) 6, O1 25 (.ldn 2) 3, O2 26 (.call 99) 24 25, O1 7 .mv 26]) (.seq (.reg [O0 27 .bsle, O1 8 .mv 27]) (.seq (.seq (.reg [Ol 9 .mv [ci 0]]) (.block 0 (.loop (.seq (.seq (.reg [O1 28 .mv 9, O1 29 (.fadr 1) 2, O1 30 .ld1 29, O2 31 (.bin .lss) 28 30]) (.cond (.t 31) .skip (.exit 0))) (.seq (.block 1 (.seq (.reg [O1 34 (.fadr 2) 2, O1 35 .ld1 34, O1 36 .mv 9, O2 37 (.call 73) 35 36]) (.cond (.t 37) (.reg [O1 38 .mv 8, O1 39 .mv 9, O1 40 (.bslv 1) 39, O2 41 (.app 1 8) 38 40, O1 8 .mv 41]) .skip))) (.reg [O1 32 .mv 9, Ol 33 (.bin .add) [.t 32, ci 1], O1 9 .mv 33])))))) (.seq (.seq (.reg [Ol 10 .mv [ci 0]]) (.block 2 (.loop (.seq (.seq (.reg [O1 42 .mv 10, O1 43 (.ldn 2) 3, O1 44 (.call 91) 43, O2 45 (.bin .lss) 42 44]) (.cond (.t 45) .skip (.exit 2))) (.seq (.block 3 (.seq (.reg [Ol 11 .mv [ci 0]]) (.block 4 (.loop (.seq (.seq (.reg [O1 48 .mv 11, O1 49 (.fadr 3) 2, O1 50 .ld1 49, O1 51 .len 50, O2 52 (.bin .lss) 48 51]) (.cond (.t 52) .skip (.exit 4))) (.seq (.block 5 (.seq (.reg [O1 55 (.fadr 3) 2, O1 56 .ld1 55, O1 57 .mv 11, O2 58 (.iadr 4) 56 57, O1 59 (.ldn 4) 58, O0 12 (.alc [(.int .i64 0), (.int .i64 0), (.int .i64 0), (.bool false)]), S2 (.st 4) 12 59]) (.seq (.reg [O1 60 .mv 10, O1 61 (.fadr 1) 2, O1 62 .ld1 61, O2 63 (.bin .mul) 60 62, O1 64 (.fadr 0) 12, O1 65 .ld1 64, O2 66 (.bin .add) 63 65, O1 13 .mv 66]) (.seq (.drw [O1 67 (.ldn 2) 3, O1 68 .mv 10, O2 69 (.call 92) 67 68, O1 70 (.fadr 1) 2, O1 71 .ld1 70, O2 72 (.bin .mul) 69 71, O1 73 (.fadr 2) 12, O1 74 .ld1 73, O2 75 (.bin .add) 72 74, O1 14 .mv 75] (unB [0, 0, 3, 0, 8, 31, 0, 64, 255, 511] 0) true true) (.seq (.seq (.drw [O1 76 (.fadr 3) 12, O1 77 .ld1 76, O1 78 .not 77, O1 79 .mv 78, Og 80 (.fadr 1) [.t 12] 79 false, Og 81 .ld1 [.t 80] 79 false, Og 82 (.ldn 2) [.t 3] 79 false, Og 83 .mv [.t 10] 79 false, Og 84 (.call 93) [.t 82, .t 83] 79 false, Og 85 (.bin .neq) [.t 81, .t 84] 79 false, Ol 86 .pick [.t 79, cb true, .t 85], O1 87 .mv 86, Og 88 .mv [.t 7] 87 false, Og 89 .mv [.t 13] 87 false, Og 90 (.iadr 1) [.t 88, .t 89] 87 false, Og 91 .ld1 [.t 90] 87 false, Og 92 (.bin .lss) [.t 91, ci 0] 87 false, Ol 93 .pick [.t 87, cb true, .t 92], O1 94 .mv 93, Og 95 .mv [.t 7] 94 false, Og 96 .mv [.t 13] 94 false, Og 97 (.iadr 1) [.t 95, .t 96] 94 false, Og 98 .ld1 [.t 97] 94 false, Og 99 .mv [.t 7] 94 false, Og 100 .mv [.t 14] 94 false, Og 101 (.iadr 1) [.t 99, .t 100] 94 false, Og 102 .ld1 [.t 101] 94 false, Og 103 (.bin .neq) [.t 98, .t 102] 94 false, Ol 104 .pick [.t 94, cb true, .t 103]] (unB [0, 1, 3, 7, 15, 31, 15, 15, 207, 511, 1023, 2047, 4095, 4095, 16383, 32767, 65535, 131071, 262143, 524287, 524287, 2097151, 4194303, 524287, 524287, 25690111, 59244543, 134217727, 268435455] 0) true true) (.cond (.t 104) (.exit 5) .skip)) (.seq (.reg [O1 105 (.ldn 5) 6, O1 106 (.ldn 2) 3, O1 107 .mv 8, O1 108 .mv 13, Ol 109 (.call 100) [.t 105, .t 106, .t 107, .t 108], O1 15 .mv 109]) (.seq (.reg [O1 110 .mv 15, O1 111 .len 110, Ol 112 (.bin .sub) [.t 111, ci 1], O1 16 .mv 112]) (.seq (.reg [O1 113 .mv 15, O1 114 (.ldn 5) 6, O1 115 (.ldn 2) 3, O1 116 .mv 14, O1 117 (.bsl 1) 116, O1 118 .mv 13, Ol 119 (.call 100) [.t 114, .t 115, .t 117, .t 118], O2 120 (.app 1 8) 113 119, O1 15 .mv 120]) (.seq (.reg [O1 121 .mv 15, O1 122 .mv 16, O2 123 (.bld [.snil, (.int .i64 0)] [(0, 1), (1, 1)]) 121 122, S2 (.st 2) 4 123, Ol 5 .mv [cb true]]) .ret))))))))) (.reg [O1 53 .mv 11, Ol 54 (.bin .add) [.t 53, ci 1], O1 11 .mv 54]))))))) (.reg [O1 46 .mv 10, Ol 47 (.bin .add) [.t 46, ci 1], O1 10 .mv 47])))))) (.seq (.reg [O0 124 (.bld [.snil, (.int .i64 0)] []), S2 (.st 2) 4 124, Ol 5 .mv [cb false]]) .ret))))))))
theorem b_spec_RunOf : Body Try.prog 30 125 c_spec_RunOf [(.cn 4 2), (.t 5)] := body_mk Try.func30 (by kernel_rfl) (by decide)
theorem bitL_asc {X n i j : Nat} (hij : i < j) (hj : j < (bitL X n).length) : (bitL X n).getD i 0 < (bitL X n).getD j 0 := by
  have h : (bitL X n).Pairwise (· < ·) := by
    unfold bitL
    exact List.Pairwise.filter _ List.pairwise_lt_range
  have := (List.pairwise_iff_getElem.1 h) i j (by omega) hj hij
  simpa [List.getD_eq_getElem?_getD, List.getElem?_eq_getElem hj, List.getElem?_eq_getElem (show i < (bitL X n).length by omega)] using this
theorem snap_gptr {h : Heap} {b o : Nat} {g : GenD} (hb : h b = some (.box (genRef o g))) (ho : h o = some (.arr 4 (gedgeRows g.edges))) : (AV.ptr b 0 0).snap h = .rptr (genRow g) 0 := by
  have e : (genRef o g).map (AV.snap1 h) = genRow g := cells_cons rfl (cells_cons rfl (cells_cons rfl (cells_cons rfl (cells_cons (snap1_all ho (length_gedgeRows _)) rfl))))
  simp only [AV.snap, hb, if_true, e]
theorem runW_no {a : AutoD} {s l : List Int} (h : (runW a s l).2 = false) : runW a s l = (([], 0), false) := by
  by_cases hex : ∃ p, p < s.length + l.length ∧ ∃ i, i < a.edges.length ∧ goodP a s l p i
  · obtain ⟨p, ⟨hp, hq⟩, hm⟩ := least _ hex
    obtain ⟨i, ⟨hi, hg⟩, hmi⟩ := least _ hq
    rw [runW_at hp hi hg (fun q hqp j hj hgj => by have := hm q ⟨by omega, j, hj, hgj⟩; omega) (fun j hj hgj => by have := hmi j ⟨by omega, hgj⟩; omega)] at h
    cases h
  · exact runW_none (fun p hp j hj hg => hex ⟨p, hp, j, hj, hg⟩)
theorem RTakesA_b {xs : List AV} {a : AutoD} {s l : List Int} {b : Bool} (hx : xs = [.agg (autoRow a), wordV s l]) (h : b = true ↔ TakesA a s l) : RTakesA xs (.bool b) [] := ⟨a, s, l, b, hx, h, rfl, rfl⟩
theorem wayS_len {a : AutoD} {s l : List Int} {src : List Nat} {t : Nat} (ha : AutoOk a) (hl0 : 0 < l.length) (ht : t < (s.length + l.length) * a.states.toNat) (h : ∃ x ∈ src, Rel1 (PA (genOfD a) s l) x t) : (wayS a s l src t).length ≤ (s.length + l.length) * a.states.toNat := by
  obtain ⟨x, k, _, hw, hd, _⟩ := wayN_ok h
  unfold wayS
  rw [List.length_map, hw, wayP_len]
  have := toD_bound ha hl0 ht (x := x) (by rw [hd]; omega)
  rw [hd] at this
  omega
theorem wrap_small {x : Int} (h0 : -10000 ≤ x) (h1 : x ≤ 10000) : IntKind.i64.wrap x = x := IntWalk.i64_in _ (by omega)
set_option maxHeartbeats 16000000 in
theorem s_spec_RunOf : PureSound Try.prog 30 RRunOf := by
  have hR : Rely Try.prog (ctxOf [(40, .pure RTakesA), (98, .pure RGenOf), (99, .pure RComps), (73, .pure RHas), (91, .pure RPlacesS), (92, .pure RAfter), (93, .pure RL3At), (100, .pure RWayS)]) :=
    rely_cons b_spec_AutoTakes.has s_spec_AutoTakes (rely_cons b_spec_GenOf.has s_spec_GenOf (rely_cons b_spec_l6Comps.has s_spec_l6Comps (rely_cons b_spec_l1Has.has s_spec_l1Has (rely_cons b_spec_l6Places.has s_spec_l6Places (rely_cons b_spec_l6After.has s_spec_l6After (rely_cons b_spec_l3At.has s_spec_l3At (rely_cons b_spec_l6Way.has s_spec_l6Way (rely_nil mixed))))))))
  refine pure_of_aw b_spec_RunOf ?_
  rintro xs r objs ⟨a, s, l, rfl, rfl, rfl⟩ -
  refine ⟨by simp, vcS_sound hR [113] _ _ _ _ _ ?_⟩
  by_cases hT : TakesA a s l
  rotate_left
  · have hsay : sayR a s l = (([], 0), false) := by
      unfold sayR
      split
      · rename_i h
        exact runW_no (Bool.eq_false_iff.2 fun hh => hT ((runW_takes h.1 h.2).1 hh))
      · rfl
    rw [hsay]
    conv => whnf
    repeat' ((first | contradiction | (refine And.intro (fun hb => ?_) (fun hb => ?_) <;> first | contradiction | ((try simp only [SB, reduceCtorEq] at hb); try (exfalso; first | contradiction | omega))) | refine G2 ?_ | rw [ints_at (by omega)] | rw [ints_at0 (by omega)] | rw [ints_at' (by omega) (by omega)] | refine G1 ?_ | refine ⟨_, _, RTakesA_b (b := false) (a := a) (s := s) (l := l) rfl ⟨fun h => (by cases h), fun h => absurd h hT⟩, ?_⟩ | fail) <;> conv => whnf)
    refine ⟨.inl rfl, ?_⟩
    conv => whnf
    exact ⟨Nat.le_refl 2, [none], ⟨rfl, And.intro rfl trivial⟩, ⟨⟨⟨rfl, rfl, rfl⟩, Or.inl rfl, trivial⟩, Or.inl rfl, trivial⟩, rfl, rfl⟩
  have ha : AutoOk a := hT.1
  have hw : wordOk s l a.letters = true := hT.2.2.1
  have hsay : sayR a s l = runW a s l := by unfold sayR; rw [if_pos ⟨ha, hw⟩]
  rw [hsay]
  have hrun2 := (runW_takes ha hw).2 hT
  have hg := genOf_ok ha
  obtain ⟨hlo, hs, hl, hl0⟩ := let_ok hw
  have hst := ha.1.2.1
  have hsr := ha.1.2.2
  have hel := ha.2.1
  have hle := length_edgeRows a.edges
  have hNN : (s.length + l.length) * a.states.toNat ≤ 80 * 31 := Nat.mul_le_mul (by omega) (by omega)
  have hst31 := lt31 ha (start_lt2 ha)
  have hes0 : a.start = ((a.start.toNat : Nat) : Int) := by omega
  have hes : a.states = ((a.states.toNat : Nat) : Int) := by omega
  have hn0 : 0 < (genOfD a).states := by
    show 0 < a.states
    obtain ⟨p, i, _, hi, _⟩ := runW_good hrun2
    have := edge_in ha hi
    unfold EdgeIn at this
    omega
  have hComps : ∀ xs, xs = [.agg (genRow (genOfD a)), wordV s l] → RComps xs (.ref 0 0 ((s.length + l.length) * a.states.toNat)) [.arr 1 (ints (compsL (PA (genOfD a) s l) (Beg (genOfD a) s l) ((s.length + l.length) * a.states.toNat)))] := fun xs h => RComps_eq h hg hn0 hlo (by omega) (by omega) hl0
  have hC := isComps_L (PA (genOfD a) s l) (Beg (genOfD a) s l) ((s.length + l.length) * a.states.toNat)
  have hBm := fun p q (h : Beg (genOfD a) s l p) (hm : Mut (PA (genOfD a) s l) p q) => beg_mut hg hl0 p q h hm.1
  generalize compsL (PA (genOfD a) s l) (Beg (genOfD a) s l) ((s.length + l.length) * a.states.toNat) = C at *
  have hCl := hC.1
  have hCi := (length_ints C).trans hCl
  have hCb : ∀ x, x < (s.length + l.length) * a.states.toNat → (0 ≤ C.getD x 0 ↔ Rch (PA (genOfD a) s l) (· ∈ bitL a.start.toNat 31) x) := fun x hx => (hC.begun hx).trans (beg_rch hg hl0)
  have hCe : ∀ x y, x < (s.length + l.length) * a.states.toNat → y < (s.length + l.length) * a.states.toNat → Rch (PA (genOfD a) s l) (· ∈ bitL a.start.toNat 31) x → (C.getD x 0 = C.getD y 0 ↔ Mut (PA (genOfD a) s l) x y) := fun x y hx hy hr => hC.eq hx hy ((beg_rch hg hl0).2 hr) hBm
  conv => whnf
  repeat' ((first | contradiction | (refine And.intro (fun hb => ?_) (fun hb => ?_) <;> first | contradiction | ((try simp only [SB, reduceCtorEq] at hb); try (exfalso; first | contradiction | omega))) | refine G2 ?_ | rw [ints_at (by omega)] | rw [ints_at0 (by omega)] | rw [ints_at' (by omega) (by omega)] | refine G1 ?_ | refine ⟨_, _, RTakesA_b (b := true) (a := a) (s := s) (l := l) rfl ⟨fun _ => hT, fun _ => rfl⟩, ?_⟩ | refine ⟨_, _, RGenOf_eq rfl ha, ?_⟩ | refine ⟨_, _, hComps _ (args_cons (snap_gen rfl) rfl), ?_⟩ | fail) <;> conv => whnf)
  refine Lp.intro (α := Nat) (fun i => i ≤ a.states.toNat) (fun i => a.states.toNat - i) (fun i => [(2, .rptr (autoRow a) 0), (3, wordP s l), (4, .ptr 0 0 0), (6, .rptr (genRow (genOfD a)) 0), (7, .val (ints C)), (8, .ref 1 0 (bitL a.start.toNat i).length), (9, .int .i64 i)]) (fun i => [some (.box [.snil, .int .i64 0]), some (.arr 1 (ints (natsI (bitL a.start.toNat i))))]) ?_ ?_
  · refine ⟨0, Nat.zero_le _, [some 2, none], rfl, rfl, And.intro (And.intro (.inl rfl) (And.intro (.inl rfl) trivial)) (And.intro rfl trivial), ?_⟩
    exact ⟨.inr rfl, .inr rfl, rfl, .inr (snap_gptr rfl rfl), .inr (snap_all rfl hCi), ⟨rfl, rfl, rfl⟩, .inl rfl, trivial⟩
  intro i hi
  have hbn := bitL_len (X := a.start.toNat) (n := i)
  have hqi := (length_ints (natsI (bitL a.start.toNat i))).trans (length_natsI _)
  refine vcS_sound hR [113] _ _ _ _ _ ?_
  by_cases hlt : i < a.states.toNat
  · have hH : RHas [.int .i64 a.start, .int .i64 ((i : Nat) : Int)] (.bool (a.start.toNat.testBit ((i : Nat) : Int).toNat)) [] := by
      have := RHas_mk (X := a.start.toNat) (i := ((i : Nat) : Int)) hst31 (by omega) (by omega)
      rwa [← hes0] at this
    conv => whnf
    repeat' ((first | contradiction | (refine And.intro (fun hb => ?_) (fun hb => ?_) <;> first | contradiction | ((try simp only [SB, reduceCtorEq] at hb); try (exfalso; first | contradiction | omega))) | refine G2 ?_ | rw [ints_at (by omega)] | rw [ints_at0 (by omega)] | rw [ints_at' (by omega) (by omega)] | refine G1 ?_ | refine ⟨_, _, hH, ?_⟩ | fail) <;> conv => whnf)
    · refine ⟨i + 1, by omega, by omega, [some 0, some 2], rfl, rfl, And.intro (And.intro (.inl rfl) (And.intro (.inl rfl) trivial)) (And.intro (And.intro rfl ?_) trivial), ?_⟩
      · rw [bitL_yes (by assumption)]; exact natsI_app rfl
      · exact ⟨.inl rfl, .inl rfl, rfl, .inl rfl, .inl rfl, congrArg (AV.ref 2 0) (by rw [bitL_yes (by assumption)]; simp), .inl rfl, trivial⟩
    · have e := bitL_no (X := a.start.toNat) (i := i) (by assumption)
      refine ⟨i + 1, by omega, by omega, [some 0, some 1], rfl, rfl, And.intro (And.intro (.inl rfl) (And.intro (.inl rfl) trivial)) (And.intro (And.intro rfl (by rw [e])) trivial), ?_⟩
      exact ⟨.inl rfl, .inl rfl, rfl, .inl rfl, .inl rfl, congrArg (AV.ref 1 0) (by rw [e]), .inl rfl, trivial⟩
  have hin : a.states.toNat = i := by omega
  subst hin
  clear hi hlt
  have hL31 : bitL a.start.toNat 31 = bitL a.start.toNat a.states.toNat := bitL_more (start_lt2 ha) (by omega)
  rw [← hL31] at hqi hbn ⊢
  conv => whnf
  repeat' ((first | contradiction | (refine And.intro (fun hb => ?_) (fun hb => ?_) <;> first | contradiction | ((try simp only [SB, reduceCtorEq] at hb); try (exfalso; first | contradiction | omega))) | refine G2 ?_ | rw [ints_at (by omega)] | rw [ints_at0 (by omega)] | rw [ints_at' (by omega) (by omega)] | refine G1 ?_ | fail) <;> conv => whnf)
  refine Lp.intro (α := Nat) (fun p => p ≤ s.length + l.length ∧ ∀ q, q < p → ∀ j, j < a.edges.length → ¬ goodP a s l q j) (fun p => s.length + l.length - p)
    (fun p => [(2, .rptr (autoRow a) 0), (3, wordP s l), (4, .ptr 0 0 0), (6, .rptr (genRow (genOfD a)) 0), (7, .val (ints C)), (8, .val (ints (natsI (bitL a.start.toNat 31)))), (10, .int .i64 p)]) (fun _ => [some (.box [.snil, .int .i64 0])]) ?_ ?_
  · refine ⟨0, ⟨Nat.zero_le _, fun q hq => by omega⟩, [some 0], rfl, rfl, And.intro (And.intro (.inl rfl) (And.intro (.inl rfl) trivial)) trivial, ?_⟩
    exact ⟨.inl rfl, .inl rfl, rfl, .inl rfl, .inl rfl, .inr (snap_all rfl hqi), .inl rfl, trivial⟩
  rintro p ⟨hp, hno⟩
  refine vcS_sound hR [113] _ _ _ _ _ ?_
  by_cases hlt : p < s.length + l.length
  rotate_left
  · exfalso
    obtain ⟨p', i', h1, h2, h3, _⟩ := runW_good hrun2
    exact hno p' (by omega) i' h2 h3
  conv => whnf
  repeat' ((first | contradiction | (refine And.intro (fun hb => ?_) (fun hb => ?_) <;> first | contradiction | ((try simp only [SB, reduceCtorEq] at hb); try (exfalso; first | contradiction | omega))) | refine G2 ?_ | rw [ints_at (by omega)] | rw [ints_at0 (by omega)] | rw [ints_at' (by omega) (by omega)] | refine G1 ?_ | refine ⟨_, _, RPlacesS_eq (s := s) (l := l) rfl (by omega) (by omega), ?_⟩ | fail) <;> conv => whnf)
  refine Lp.intro (α := Nat) (fun i => i ≤ a.edges.length ∧ ∀ j, j < i → ¬ goodP a s l p j) (fun i => a.edges.length - i)
    (fun i => [(2, .rptr (autoRow a) 0), (3, wordP s l), (4, .ptr 0 0 0), (6, .rptr (genRow (genOfD a)) 0), (7, .val (ints C)), (8, .val (ints (natsI (bitL a.start.toNat 31)))), (10, .int .i64 p), (11, .int .i64 i)]) (fun _ => [some (.box [.snil, .int .i64 0])]) ?_ ?_
  · refine ⟨0, ⟨Nat.zero_le _, fun j hj => by omega⟩, [some 0], rfl, rfl, And.intro (And.intro (.inl rfl) (And.intro (.inl rfl) trivial)) trivial, ?_⟩
    exact ⟨.inl rfl, .inl rfl, rfl, .inl rfl, .inl rfl, .inl rfl, .inl rfl, .inl rfl, trivial⟩
  rintro i ⟨hi, hnoi⟩
  refine vcS_sound hR [113] _ _ _ _ _ ?_
  by_cases hil : i < a.edges.length
  rotate_left
  · have e : a.edges.length = i := by omega
    conv => whnf
    repeat' ((first | contradiction | (refine And.intro (fun hb => ?_) (fun hb => ?_) <;> first | contradiction | ((try simp only [SB, reduceCtorEq] at hb); try (exfalso; first | contradiction | omega))) | refine G2 ?_ | rw [ints_at (by omega)] | rw [ints_at0 (by omega)] | rw [ints_at' (by omega) (by omega)] | refine G1 ?_ | fail) <;> conv => whnf)
    refine ⟨p + 1, ⟨hlt, fun q hq j hj => ?_⟩, by omega, [some 0], rfl, rfl, And.intro (And.intro (.inl rfl) (And.intro (.inl rfl) trivial)) trivial, ?_⟩
    · by_cases hqp : q = p
      · subst hqp; exact hnoi j (by omega)
      · exact hno q (by omega) j hj
    · exact ⟨.inl rfl, .inl rfl, rfl, .inl rfl, .inl rfl, .inl rfl, .inl rfl, trivial⟩
  have he := edge_in ha hil
  have hat := edge_at hil
  unfold EdgeIn at he
  have hnext : ¬ goodP a s l p i → ∀ j, j < i + 1 → ¬ goodP a s l p j := fun h j hj => by
    by_cases hji : j = i
    · subst hji; exact h
    · exact hnoi j (by omega)
  have hnx := nextN_lt (s := s) hlt hl0
  have hX : ((p : Nat) : Int) * a.states + (a.edges.getD i default).src = ((ptX a p i : Nat) : Int) := by
    unfold ptX
    rw [Int.natCast_add, Int.natCast_mul, ← hes]
    omega
  have hY : ((nextN s l p : Nat) : Int) * a.states + (a.edges.getD i default).dst = ((ptY a s l p i : Nat) : Int) := by
    unfold ptY
    rw [Int.natCast_add, Int.natCast_mul, ← hes]
    omega
  have hXl : ptX a p i < (s.length + l.length) * a.states.toNat := pt_lt hlt (by omega)
  have hYl : ptY a s l p i < (s.length + l.length) * a.states.toNat := pt_lt hnx (by omega)
  have hCX := ints_at (xs := C) (i := ptX a p i) (by omega)
  have hCY := ints_at (xs := C) (i := ptY a s l p i) (by omega)
  have hRX := hCb _ hXl
  have hRO : 0 ≤ C.getD (ptX a p i) 0 → (C.getD (ptX a p i) 0 = C.getD (ptY a s l p i) 0 ↔ Mut (PA (genOfD a) s l) (ptX a p i) (ptY a s l p i)) := fun h => hCe _ _ hXl hYl (hRX.1 h)
  have hb1 : 0 ≤ ((p : Nat) : Int) * a.states := by rw [hes, ← Int.natCast_mul]; omega
  have hb2 : 0 ≤ ((nextN s l p : Nat) : Int) * a.states := by rw [hes, ← Int.natCast_mul]; omega
  have hXN : ((ptX a p i : Nat) : Int) ≤ 2480 := by omega
  have hYN : ((ptY a s l p i : Nat) : Int) ≤ 2480 := by omega
  have hw1 : 0 ≤ C.getD (ptX a p i) 0 → ∃ x0 ∈ bitL a.start.toNat 31, Rel1 (PA (genOfD a) s l) x0 (ptX a p i) := fun h => by
    obtain ⟨s0, k1, k2⟩ := rch_of (hRX.1 h)
    exact ⟨s0, k1, k2⟩
  have hw2 : 0 ≤ C.getD (ptX a p i) 0 → C.getD (ptX a p i) 0 = C.getD (ptY a s l p i) 0 → ∃ x0 ∈ [ptY a s l p i], Rel1 (PA (genOfD a) s l) x0 (ptX a p i) := fun h0 h => ⟨_, List.mem_singleton.2 rfl, ((hRO h0).1 h).2⟩
  have hYs : ∀ q ∈ [ptY a s l p i], q < (s.length + l.length) * a.states.toNat := fun q hq => by obtain rfl := List.mem_singleton.1 hq; exact hYl
  have g5 : ∀ p ∈ bitL a.start.toNat 31, p < (s.length + l.length) * a.states.toNat := fun p hp => by
    have h1 := start_pts (s := s) hg hl0 p hp
    rw [length_ptsG] at h1
    exact h1
  have hasc1 : ∀ i j, i < j → j < (bitL a.start.toNat 31).length → (bitL a.start.toNat 31).getD i 0 % a.states.toNat < (bitL a.start.toNat 31).getD j 0 % a.states.toNat := fun i j hij hj => by
    have hin : ∀ k, k < (bitL a.start.toNat 31).length → (bitL a.start.toNat 31).getD k 0 < a.states.toNat := fun k hk => by
      have : (bitL a.start.toNat 31).getD k 0 ∈ bitL a.start.toNat 31 := by
        rw [List.getD_eq_getElem?_getD, List.getElem?_eq_getElem hk]
        exact List.getElem_mem hk
      exact bit_lt (start_lt2 ha) (mem_bitL.1 this).2
    rw [Nat.mod_eq_of_lt (hin i (by omega)), Nat.mod_eq_of_lt (hin j hj)]
    exact bitL_asc hij hj
  have hwr : 0 ≤ C.getD (ptX a p i) 0 → IntKind.i64.wrap (((wayS a s l (bitL a.start.toNat 31) (ptX a p i)).length : Int) - 1) = ((wayS a s l (bitL a.start.toNat 31) (ptX a p i)).length : Int) - 1 := fun h => by
    have := wayS_len ha hl0 hXl (hw1 h)
    exact wrap_small (by omega) (by omega)
  conv => whnf
  repeat' ((first | contradiction | (refine And.intro (fun hb => ?_) (fun hb => ?_) <;> first | contradiction | ((try simp only [SB, reduceCtorEq] at hb); try (exfalso; first | contradiction | omega))) | rw [hat] | rw [hX] | rw [hY] | rw [hwr (by omega)] | rw [hCX] | rw [hCY] | refine G2 ?_ | rw [ints_at (by omega)] | rw [ints_at0 (by omega)] | rw [ints_at' (by omega) (by omega)] | refine G1 ?_ | refine ⟨_, rfl, ?_⟩ | refine ⟨_, _, RAfter_eq (s := s) (l := l) rfl (by omega) (by omega) hlt, ?_⟩ | refine ⟨_, _, RL3At_eq (s := s) (l := l) rfl (by omega) (by omega) hlt, ?_⟩ | refine ⟨_, _, RWayS_eq (src := bitL a.start.toNat 31) (args_cons rfl (args_cons rfl (args_cons rfl (args_cons rfl rfl)))) ha hw hXl g5 (by omega) hasc1 (hw1 (by omega)), ?_⟩ | fail) <;> conv => whnf)
  all_goals first
  | (refine ⟨i + 1, ⟨hil, hnext (fun h => ?_)⟩, by omega, [some 0], rfl, rfl, And.intro (And.intro (.inl rfl) (And.intro (.inl rfl) trivial)) trivial, ?_⟩
     · first
       | exact absurd h.2.1 (by assumption)
       | (have := hRX.2 h.2.2.1; omega)
       | exact absurd ((hRO (hRX.2 h.2.2.1)).2 ⟨Rel1.one (pa_XY ha hlt hil h.2.1), h.2.2.2⟩) (by assumption)
       | exact Bool.noConfusion (h.1.symm.trans (show (a.edges.getD i default).mark = false by assumption))
     · exact ⟨.inl rfl, .inl rfl, rfl, .inl rfl, .inl rfl, .inl rfl, .inl rfl, .inl rfl, trivial⟩)
  | skip
  have h0C : 0 ≤ C.getD (ptX a p i) 0 := by omega
  have heC : C.getD (ptX a p i) 0 = C.getD (ptY a s l p i) 0 := by assumption
  have hgood : goodP a s l p i := ⟨by assumption, by assumption, hRX.1 h0C, ((hRO h0C).1 heC).2⟩
  have hrun := runW_at hlt hil hgood hno hnoi
  obtain ⟨_, _, _, hlen⟩ := runO_spec ha hw hlt hil hgood
  rw [hrun]
  unfold runO at hlen ⊢
  dsimp only at hlen
  refine Rg.split hR 7 ?_
  conv => whnf
  repeat' ((first | contradiction | (refine And.intro (fun hb => ?_) (fun hb => ?_) <;> first | contradiction | ((try simp only [SB, reduceCtorEq] at hb); try (exfalso; first | contradiction | omega))) | refine G2 ?_ | rw [ints_at (by omega)] | rw [ints_at0 (by omega)] | rw [ints_at' (by omega) (by omega)] | refine G1 ?_ | (refine ⟨_, _, RWayS_eq (src := [ptY a s l p i]) (args_cons rfl (args_cons rfl (args_cons (snap_is rfl rfl rfl) (args_cons rfl rfl)))) ha hw hXl hYs (by simp) (fun i j hij hj => by simp at hj; omega) (hw2 h0C heC), ?_⟩) | fail) <;> conv => whnf)
  generalize wayS a s l (bitL a.start.toNat 31) (ptX a p i) = T at *
  generalize wayS a s l [ptY a s l p i] (ptX a p i) = B at *
  rw [List.length_append] at hlen
  have hTl := length_ints T
  have hBl := length_ints B
  refine ⟨[some 0, some 2], [(4, .ptr 0 0 0), (16, .int .i64 (((T.length : Nat) : Int) - 1)), (113, .ref 1 0 T.length), (119, .val (ints B))], [some (.box [.snil, .int .i64 0]), some (.arr 1 (ints T))], ⟨rfl, rfl, And.intro (And.intro (.inl rfl) (And.intro (.inl rfl) trivial)) (And.intro (And.intro rfl rfl) trivial), ?_⟩, ?_⟩
  · exact ⟨rfl, .inl rfl, rfl, .inr (snap_all rfl (length_ints _)), trivial⟩
  conv => whnf
  repeat' ((first | contradiction | (refine And.intro (fun hb => ?_) (fun hb => ?_) <;> first | contradiction | ((try simp only [SB, reduceCtorEq] at hb); try (exfalso; first | contradiction | omega))) | refine G2 ?_ | rw [ints_at (by omega)] | rw [ints_at0 (by omega)] | rw [ints_at' (by omega) (by omega)] | refine G1 ?_ | refine And.intro ints_one ?_ | refine And.intro ints_ones ?_ | fail) <;> conv => whnf)
  have happ : List.take T.length (ints T) ++ ints B = ints (T ++ B) := by rw [List.take_of_length_le (by omega)]; simp [ints]
  refine ⟨.inl rfl, ?_⟩
  conv => whnf
  refine ⟨Nat.le_refl 2, [some 2], ⟨rfl, And.intro (And.intro rfl happ) trivial⟩, ⟨⟨congrArg (AV.ref 2 0) ?_, Or.inl rfl, trivial⟩, Or.inl rfl, trivial⟩, rfl, by simp [runOb, AObj.nov, ints_nov]⟩
  show T.length + (ints B).length = (T ++ B).length
  rw [hBl, List.length_append]
end Go.Proofs.Ythanhknkoikbfaa.Ct
namespace Go.Proofs.Ythanhknkoikbfaa.Ct
open Go Go.Proofs Go.Proofs.Ythanhknkoikbfaa.Av
def c_laws_markIntS : ICode := (.seq (.reg [Ol 4 .mv [ci 0]]) (.seq (.seq (.reg [Ol 5 .mv [ci 0]]) (.block 0 (.loop (.seq (.seq (.reg [O1 6 .mv 5, O1 7 .mv 0, O1 8 .len 7, O2 9 (.bin .lss) 6 8]) (.cond (.t 9) .skip (.exit 0))) (.seq (.block 1 (.seq (.reg [O1 12 .mv 0, O1 13 .mv 5, O1 14 .mv 1, O2 15 (.iadr 1) 12 13, S2 (.st 1) 15 14]) (.reg [O1 16 .mv 1, Ol 17 (.bin .add) [.t 16, ci 1], O1 1 .mv 17]))) (.reg [O1 10 .mv 5, Ol 11 (.bin .add) [.t 10, ci 1], O1 5 .mv 11])))))) (.seq (.reg [O1 18 .mv 1, O1 4 .mv 18]) .ret)))
theorem b_laws_markIntS : Body Try.prog 89 19 c_laws_markIntS [(.t 4)] := body_mk Try.func89 (by kernel_rfl) (by decide)
def c_laws_heldIntS : ICode := (.seq (.reg [Ol 4 .mv [ci 0]]) (.seq (.seq (.reg [Ol 5 .mv [ci 0]]) (.block 0 (.loop (.seq (.seq (.reg [O1 6 .mv 5, O1 7 .mv 0, O1 8 .len 7, O2 9 (.bin .lss) 6 8]) (.cond (.t 9) .skip (.exit 0))) (.seq (.block 1 (.seq (.seq (.reg [O1 12 .mv 0, O1 13 .mv 5, O2 14 (.iadr 1) 12 13, O1 15 .ld1 14, O1 16 .mv 1, O2 17 (.bin .neq) 15 16]) (.cond (.t 17) (.seq (.reg [Ol 4 .mv [ci (-1)]]) .ret) .skip)) (.reg [O1 18 .mv 1, Ol 19 (.bin .add) [.t 18, ci 1], O1 1 .mv 19]))) (.reg [O1 10 .mv 5, Ol 11 (.bin .add) [.t 10, ci 1], O1 5 .mv 11])))))) (.seq (.reg [O1 20 .mv 1, O1 4 .mv 20]) .ret)))
theorem b_laws_heldIntS : Body Try.prog 108 21 c_laws_heldIntS [(.t 4)] := body_mk Try.func108 (by kernel_rfl) (by decide)
def c_laws_markWord : ICode := (.seq (.reg [O1 2 (.box 2) 0, Ol 4 .mv [ci 0]]) (.seq (.reg [O1 5 (.fadr 0) 2, O1 6 .ld1 5, O1 7 .mv 1, O2 8 (.call 89) 6 7, O1 1 .mv 8]) (.seq (.reg [O1 9 (.fadr 1) 2, O1 10 .ld1 9, O1 11 .mv 1, O2 12 (.call 89) 10 11, O1 1 .mv 12]) (.seq (.reg [O1 13 .mv 1, O1 4 .mv 13]) .ret))))
theorem b_laws_markWord : Body Try.prog 25 14 c_laws_markWord [(.t 4)] := body_mk Try.func25 (by kernel_rfl) (by decide)
def marks (k : Int) (n : Nat) : List Int := (List.range n).map fun i => k + (i : Nat)
@[simp] theorem length_marks (k : Int) (n : Nat) : (marks k n).length = n := by simp [marks]
theorem marks_at {k : Int} {n i : Nat} (h : i < n) : (marks k n).getD i 0 = k + i := by simp [marks, h]
theorem set_step {l : List Int} {k : Int} {i : Nat} (hi : i < l.length) : (ints (marks k i ++ l.drop i)).set i [.int .i64 (k + i)] = ints (marks k (i + 1) ++ l.drop (i + 1)) := by
  have e : l.drop i = l.getD i 0 :: l.drop (i + 1) := by
    rw [List.drop_eq_getElem_cons hi]
    simp [List.getD_eq_getElem?_getD, List.getElem?_eq_getElem hi]
  rw [e]
  simp [ints, marks, List.range_succ, List.set_append]
theorem marks_get {l : List Int} {k : Int} {i : Nat} (hi : i < l.length) : (ints (marks k i ++ l.drop i))[0 + ((i : Nat) : Int).toNat]? = some [.int .i64 (l.getD i 0)] := by
  rw [Nat.zero_add]
  have e : l.drop i = l.getD i 0 :: l.drop (i + 1) := by
    rw [List.drop_eq_getElem_cons hi]
    simp [List.getD_eq_getElem?_getD, List.getElem?_eq_getElem hi]
  rw [e]
  simp [ints, marks, List.getElem?_append]
def GMarkIntS : GFun := fun xs objs Q => ∃ l k, xs = [.ref 0 0 l.length, .int .i64 k] ∧ objs = [.arr 1 (ints l)] ∧ l.length ≤ 1073741824 ∧ 0 ≤ k ∧ k ≤ 4611686018427387904 ∧ Q (.int .i64 (k + l.length)) [some (.arr 1 (ints (marks k l.length)))]
theorem GMarkIntS_mk {l : List Int} {k : Int} {Q : AV → List (Option AObj) → Prop} (h1 : l.length ≤ 1073741824) (h2 : 0 ≤ k) (h3 : k ≤ 4611686018427387904) (hq : Q (.int .i64 (k + l.length)) [some (.arr 1 (ints (marks k l.length)))]) :
    GMarkIntS [.ref 0 0 l.length, .int .i64 k] [.arr 1 (ints l)] Q := ⟨l, k, rfl, rfl, h1, h2, h3, hq⟩
theorem s_laws_markIntS : GenSound Try.prog 89 1 GMarkIntS := by
  have hR : Rely Try.prog (ctxOf []) := rely_nil mixed
  refine gen_of_aw b_laws_markIntS ?_
  rintro xs objs Q - ⟨l, k, rfl, rfl, h1, h2, h3, hq⟩ -
  refine ⟨by simp, vc2_sound hR _ _ _ _ _ ?_⟩
  conv => whnf
  repeat' ((first | contradiction | (refine And.intro (fun hb => ?_) (fun hb => ?_) <;> first | contradiction | ((try simp only [SB, reduceCtorEq] at hb); try (exfalso; first | contradiction | omega))) | refine G2 ?_ | rw [ints_at (by omega)] | rw [ints_at0 (by omega)] | rw [ints_at' (by omega) (by omega)] | refine G1 ?_ | fail) <;> conv => whnf)
  refine Lp.intro (α := Nat) (fun i => i ≤ l.length) (fun i => l.length - i) (fun i => [(0, .ref 0 0 l.length), (1, .int .i64 (k + i)), (5, .int .i64 i)]) (fun i => [some (.arr 1 (ints (marks k i ++ l.drop i)))]) ?_ ?_
  · refine ⟨0, by omega, [some 0], rfl, rfl, And.intro (And.intro rfl ?_) trivial, ?_⟩
    · simp [marks]
    · repeat' (first
        | exact trivial
        | refine ⟨?_, ?_⟩
        | fail)
      all_goals first
        | with_reducible rfl
        | (conv => whnf
           try left
           conv => lhs; whnf
           first
             | rfl
             | exact congrArg (AV.int .i64) (by omega)
             | skip)
  · intro i hi
    refine vc2_sound hR _ _ _ _ _ ?_
    conv => whnf
    repeat' ((first | contradiction | (refine And.intro (fun hb => ?_) (fun hb => ?_) <;> first | contradiction | ((try simp only [SB, reduceCtorEq] at hb); try (exfalso; first | contradiction | omega))) | refine G2 ?_ | rw [ints_at (by omega)] | rw [ints_at0 (by omega)] | rw [ints_at' (by omega) (by omega)] | refine G1 ?_ | rw [marks_get (by omega)] | fail) <;> conv => whnf)
    · refine ⟨i + 1, by omega, by omega, [some 0], rfl, rfl, And.intro (And.intro rfl ?_) trivial, ?_⟩
      · show (ints _).set (0 + ((i : Nat) : Int).toNat) _ = _
        rw [Nat.zero_add]
        exact set_step (by omega)
      · repeat' (first
          | exact trivial
          | refine ⟨?_, ?_⟩
          | fail)
        all_goals first
          | with_reducible rfl
          | (conv => whnf
             try left
             conv => lhs; whnf
             first
               | rfl
               | exact congrArg (AV.int .i64) (by omega)
               | skip)
    · have hil : i = l.length := by omega
      refine ⟨.inl rfl, ?_⟩
      conv => whnf
      subst hil
      refine ⟨[some 0], .int .i64 (k + l.length), [some (.arr 1 (ints (marks k l.length)))], ⟨rfl, And.intro (And.intro rfl ?_) trivial⟩, .inl rfl, rfl, hq⟩
      simp
def heldI (l : List Int) (k : Int) : Int := if l = marks k l.length then k + l.length else -1
def RHeldIntS (xs : List AV) (r : AV) (objs : List AObj) : Prop := ∃ l k, xs = [.val (ints l), .int .i64 k] ∧ l.length ≤ 1073741824 ∧ 0 ≤ k ∧ k ≤ 4611686018427387904 ∧ r = .int .i64 (heldI l k) ∧ objs = []
theorem RHeldIntS_eq {xs : List AV} {l : List Int} {k : Int} (h : xs = [.val (ints l), .int .i64 k]) (h1 : l.length ≤ 1073741824) (h2 : 0 ≤ k) (h3 : k ≤ 4611686018427387904) : RHeldIntS xs (.int .i64 (heldI l k)) [] := ⟨l, k, h, h1, h2, h3, rfl, rfl⟩
theorem s_laws_heldIntS : PureSound Try.prog 108 RHeldIntS := by
  have hR : Rely Try.prog (ctxOf []) := rely_nil mixed
  refine pure_of_aw b_laws_heldIntS ?_
  rintro xs r objs ⟨l, k, rfl, h1, h2, h3, rfl, rfl⟩ -
  refine ⟨by simp, vc2_sound hR _ _ _ _ _ ?_⟩
  conv => whnf
  repeat' ((first | contradiction | (refine And.intro (fun hb => ?_) (fun hb => ?_) <;> first | contradiction | ((try simp only [SB, reduceCtorEq] at hb); try (exfalso; first | contradiction | omega))) | refine G2 ?_ | rw [ints_at (by omega)] | rw [ints_at0 (by omega)] | rw [ints_at' (by omega) (by omega)] | refine G1 ?_ | fail) <;> conv => whnf)
  refine Lp.intro (α := Nat) (fun i => i ≤ l.length ∧ ∀ j, j < i → l.getD j 0 = k + j) (fun i => l.length - i) (fun i => [(0, .val (ints l)), (1, .int .i64 (k + i)), (5, .int .i64 i)]) (fun _ => []) ?_ ?_
  · refine ⟨0, ⟨by omega, by omega⟩, [], rfl, rfl, trivial, ?_⟩
    repeat' (first
      | exact trivial
      | refine ⟨?_, ?_⟩
      | fail)
    all_goals first
      | with_reducible rfl
      | (conv => whnf
         try left
         conv => lhs; whnf
         first
           | rfl
           | exact congrArg (AV.int .i64) (by omega)
           | skip)
  · rintro i ⟨hi, hall⟩
    refine vc2_sound hR _ _ _ _ _ ?_
    conv => whnf
    repeat' ((first | contradiction | (refine And.intro (fun hb => ?_) (fun hb => ?_) <;> first | contradiction | ((try simp only [SB, reduceCtorEq] at hb); try (exfalso; first | contradiction | omega))) | refine G2 ?_ | rw [ints_at (by omega)] | rw [ints_at0 (by omega)] | rw [ints_at' (by omega) (by omega)] | refine G1 ?_ | fail) <;> conv => whnf)
    · refine ⟨.inl rfl, ?_⟩
      conv => whnf
      refine ⟨[], ⟨rfl, trivial⟩, ?_, rfl, rfl⟩
      conv => whnf
      left
      conv => lhs; whnf
      refine congrArg (AV.int .i64) ?_
      unfold heldI
      rw [if_neg]
      intro he
      have : l.getD i 0 = (marks k l.length).getD i 0 := congrArg (fun z => z.getD i 0) he
      rw [marks_at (by omega)] at this
      contradiction
    · refine ⟨i + 1, ⟨by omega, fun j hj => ?_⟩, by omega, [], rfl, rfl, ?_, ?_⟩
      · by_cases hji : j = i
        · subst hji; assumption
        · exact hall j (by omega)
      · repeat' (first | exact trivial | exact rfl | exact Or.inl rfl | refine And.intro ?_ ?_)
      · repeat' (first
          | exact trivial
          | refine ⟨?_, ?_⟩
          | fail)
        all_goals first
          | with_reducible rfl
          | (conv => whnf
             try left
             conv => lhs; whnf
             first
               | rfl
               | exact congrArg (AV.int .i64) (by omega)
               | skip)
    · refine ⟨.inl rfl, ?_⟩
      conv => whnf
      refine ⟨[], ⟨rfl, trivial⟩, ?_, rfl, rfl⟩
      conv => whnf
      left
      conv => lhs; whnf
      refine congrArg (AV.int .i64) ?_
      have hil : i = l.length := by omega
      unfold heldI
      rw [if_pos, hil]
      refine eq_of_getD (by rw [length_marks]) (fun j hj => ?_)
      rw [marks_at hj]
      exact hall j (by omega)
def GMarkWord : GFun := fun xs objs Q => ∃ s l k, xs = [.agg [.ref 0 0 s.length, .ref 1 0 l.length], .int .i64 k] ∧ objs = [.arr 1 (ints s), .arr 1 (ints l)] ∧ s.length ≤ 1073741824 ∧ l.length ≤ 1073741824 ∧ 0 ≤ k ∧ k ≤ 1073741824 ∧
  Q (.int .i64 (k + s.length + l.length)) [some (.arr 1 (ints (marks k s.length))), some (.arr 1 (ints (marks (k + s.length) l.length)))]
theorem GMarkWord_mk {s l : List Int} {k : Int} {Q : AV → List (Option AObj) → Prop} (h1 : s.length ≤ 1073741824) (h1' : l.length ≤ 1073741824) (h2 : 0 ≤ k) (h3 : k ≤ 1073741824)
    (hq : Q (.int .i64 (k + s.length + l.length)) [some (.arr 1 (ints (marks k s.length))), some (.arr 1 (ints (marks (k + s.length) l.length)))]) :
    GMarkWord [.agg [.ref 0 0 s.length, .ref 1 0 l.length], .int .i64 k] [.arr 1 (ints s), .arr 1 (ints l)] Q := ⟨s, l, k, rfl, rfl, h1, h1', h2, h3, hq⟩
set_option maxHeartbeats 2000000 in
theorem s_laws_markWord : GenSound Try.prog 25 2 GMarkWord := by
  have hR : Rely Try.prog (ctxOf [(89, .gen 1 GMarkIntS)]) := rely_cons b_laws_markIntS.has s_laws_markIntS (rely_nil mixed)
  refine gen_of_aw b_laws_markWord ?_
  rintro xs objs Q - ⟨s, l, k, rfl, rfl, h1, h1', h2, h3, hq⟩ -
  refine ⟨by simp, vc2_sound hR _ _ _ _ _ ?_⟩
  conv => whnf
  repeat' ((first | contradiction | (refine And.intro (fun hb => ?_) (fun hb => ?_) <;> first | contradiction | ((try simp only [SB, reduceCtorEq] at hb); try (exfalso; first | contradiction | omega))) | refine G2 ?_ | rw [ints_at (by omega)] | rw [ints_at0 (by omega)] | rw [ints_at' (by omega) (by omega)] | refine G1 ?_ | refine ⟨GMarkIntS_mk (by omega) (by omega) (by omega) ?_⟩ | fail) <;> conv => whnf)
  refine ⟨.inl rfl, ?_⟩
  conv => whnf
  exact ⟨[some 0, some 1], .int .i64 (k + s.length + l.length), [some (.arr 1 (ints (marks k s.length))), some (.arr 1 (ints (marks (k + s.length) l.length)))], ⟨rfl, And.intro (And.intro rfl rfl) (And.intro (And.intro rfl rfl) trivial)⟩, .inl rfl, rfl, hq⟩
def c_laws_eqRun : ICode := (.seq (.reg [O1 2 (.box 2) 0, O1 3 (.box 2) 1, Ol 4 .mv [cb false]]) (.seq (.seq (.reg [O1 5 (.fadr 0) 2, O1 6 .ld1 5, O1 7 (.fadr 0) 3, O1 8 .ld1 7, O2 9 (.call 87) 6 8, O1 10 .not 9]) (.cond (.t 10) (.seq (.reg [Ol 4 .mv [cb false]]) .ret) .skip)) (.seq (.seq (.reg [O1 11 (.fadr 1) 2, O1 12 .ld1 11, O1 13 (.fadr 1) 3, O1 14 .ld1 13, O2 15 (.bin .neq) 12 14]) (.cond (.t 15) (.seq (.reg [Ol 4 .mv [cb false]]) .ret) .skip)) (.seq (.reg [Ol 4 .mv [cb true]]) .ret))))
theorem b_laws_eqRun : Body Try.prog 32 16 c_laws_eqRun [(.t 4)] := body_mk Try.func32 (by kernel_rfl) (by decide)
def c_laws_markRun : ICode := (.seq (.reg [O1 2 (.box 2) 0, Ol 4 .mv [ci 0]]) (.seq (.reg [O1 5 (.fadr 0) 2, O1 6 .ld1 5, O1 7 .mv 1, O2 8 (.call 89) 6 7, O1 1 .mv 8]) (.seq (.reg [O1 9 .mv 1, O1 4 .mv 9]) .ret)))
theorem b_laws_markRun : Body Try.prog 33 10 c_laws_markRun [(.t 4)] := body_mk Try.func33 (by kernel_rfl) (by decide)
def c_laws_heldRun : ICode := (.seq (.reg [O1 2 (.box 2) 0, Ol 4 .mv [ci 0]]) (.seq (.reg [O1 5 (.fadr 0) 2, O1 6 .ld1 5, O1 7 .mv 1, O2 8 (.call 108) 6 7, O1 1 .mv 8]) (.seq (.seq (.reg [O1 9 .mv 1, Ol 10 (.bin .lss) [.t 9, ci 0]]) (.cond (.t 10) (.seq (.reg [Ol 4 .mv [ci (-1)]]) .ret) .skip)) (.seq (.reg [O1 11 .mv 1, O1 4 .mv 11]) .ret))))
theorem b_laws_heldRun : Body Try.prog 34 12 c_laws_heldRun [(.t 4)] := body_mk Try.func34 (by kernel_rfl) (by decide)
abbrev runV (st : List Int) (b : Int) : AV := .agg [.val (ints st), .int .i64 b]
def REqRun (xs : List AV) (r : AV) (objs : List AObj) : Prop := ∃ st b st' b', xs = [runV st b, runV st' b'] ∧ r = .bool (decide (st = st') && decide (b = b')) ∧ objs = []
theorem REqRun_eq {xs : List AV} {st : List Int} {b : Int} (h : xs = [runV st b, runV st b]) : REqRun xs (.bool true) [] := ⟨st, b, st, b, h, by simp, rfl⟩
theorem s_laws_eqRun : PureSound Try.prog 32 REqRun := by
  have hR : Rely Try.prog (ctxOf [(87, .pure REqIntS)]) := rely_cons b_laws_eqIntS.has s_laws_eqIntS (rely_nil mixed)
  refine pure_of_aw b_laws_eqRun ?_
  rintro xs r objs ⟨st, b, st', b', rfl, rfl, rfl⟩ -
  refine ⟨by simp, vc2_sound hR _ _ _ _ _ ?_⟩
  conv => whnf
  repeat' ((first | contradiction | (refine And.intro (fun hb => ?_) (fun hb => ?_) <;> first | contradiction | ((try simp only [SB, reduceCtorEq] at hb); try (exfalso; first | contradiction | omega))) | refine G2 ?_ | rw [ints_at (by omega)] | rw [ints_at0 (by omega)] | rw [ints_at' (by omega) (by omega)] | refine G1 ?_ | refine ⟨_, _, REqIntS_eq rfl, ?_⟩ | fail) <;> conv => whnf)
  all_goals
    refine ⟨.inl rfl, ?_⟩
    conv => whnf
    refine ⟨[], ⟨rfl, trivial⟩, ?_, rfl, rfl⟩
    conv => whnf
    left
    conv => lhs; whnf
    refine congrArg AV.bool ?_
    simp_all
def GMarkRun : GFun := fun xs objs Q => ∃ st b k, xs = [.agg [.ref 0 0 st.length, .int .i64 b], .int .i64 k] ∧ objs = [.arr 1 (ints st)] ∧ st.length ≤ 1073741824 ∧ 0 ≤ k ∧ k ≤ 1073741824 ∧ Q (.int .i64 (k + st.length)) [some (.arr 1 (ints (marks k st.length)))]
theorem GMarkRun_mk {st : List Int} {b k : Int} {Q : AV → List (Option AObj) → Prop} (h1 : st.length ≤ 1073741824) (h2 : 0 ≤ k) (h3 : k ≤ 1073741824) (hq : Q (.int .i64 (k + st.length)) [some (.arr 1 (ints (marks k st.length)))]) : GMarkRun [.agg [.ref 0 0 st.length, .int .i64 b], .int .i64 k] [.arr 1 (ints st)] Q := ⟨st, b, k, rfl, rfl, h1, h2, h3, hq⟩
theorem s_laws_markRun : GenSound Try.prog 33 1 GMarkRun := by
  have hR : Rely Try.prog (ctxOf [(89, .gen 1 GMarkIntS)]) := rely_cons b_laws_markIntS.has s_laws_markIntS (rely_nil mixed)
  refine gen_of_aw b_laws_markRun ?_
  rintro xs objs Q - ⟨st, b, k, rfl, rfl, h1, h2, h3, hq⟩ -
  refine ⟨by simp, vc2_sound hR _ _ _ _ _ ?_⟩
  conv => whnf
  repeat' ((first | contradiction | (refine And.intro (fun hb => ?_) (fun hb => ?_) <;> first | contradiction | ((try simp only [SB, reduceCtorEq] at hb); try (exfalso; first | contradiction | omega))) | refine G2 ?_ | rw [ints_at (by omega)] | rw [ints_at0 (by omega)] | rw [ints_at' (by omega) (by omega)] | refine G1 ?_ | refine ⟨GMarkIntS_mk (by omega) (by omega) (by omega) ?_⟩ | fail) <;> conv => whnf)
  refine ⟨.inl rfl, ?_⟩
  conv => whnf
  exact ⟨[some 0], .int .i64 (k + st.length), [some (.arr 1 (ints (marks k st.length)))], ⟨rfl, And.intro (And.intro rfl rfl) trivial⟩, .inl rfl, rfl, hq⟩
def RHeldRun (xs : List AV) (r : AV) (objs : List AObj) : Prop := ∃ st b k, xs = [runV st b, .int .i64 k] ∧ st.length ≤ 1073741824 ∧ 0 ≤ k ∧ k ≤ 1073741824 ∧ r = .int .i64 (heldI st k) ∧ objs = []
theorem RHeldRun_eq {xs : List AV} {st : List Int} {b k : Int} (h : xs = [runV st b, .int .i64 k]) (h1 : st.length ≤ 1073741824) (h2 : 0 ≤ k) (h3 : k ≤ 1073741824) : RHeldRun xs (.int .i64 (heldI st k)) [] := ⟨st, b, k, h, h1, h2, h3, rfl, rfl⟩
theorem s_laws_heldRun : PureSound Try.prog 34 RHeldRun := by
  have hR : Rely Try.prog (ctxOf [(108, .pure RHeldIntS)]) := rely_cons b_laws_heldIntS.has s_laws_heldIntS (rely_nil mixed)
  refine pure_of_aw b_laws_heldRun ?_
  rintro xs r objs ⟨st, b, k, rfl, h1, h2, h3, rfl, rfl⟩ -
  have hm : 0 ≤ heldI st k ∨ heldI st k = -1 := by
    unfold heldI
    split
    · exact .inl (by omega)
    · exact .inr rfl
  refine ⟨by simp, vc2_sound hR _ _ _ _ _ ?_⟩
  conv => whnf
  repeat' ((first | contradiction | (refine And.intro (fun hb => ?_) (fun hb => ?_) <;> first | contradiction | ((try simp only [SB, reduceCtorEq] at hb); try (exfalso; first | contradiction | omega))) | refine G2 ?_ | rw [ints_at (by omega)] | rw [ints_at0 (by omega)] | rw [ints_at' (by omega) (by omega)] | refine G1 ?_ | refine ⟨_, _, RHeldIntS_eq (l := st) (k := k) rfl (by omega) (by omega) (by omega), ?_⟩ | fail) <;> conv => whnf)
  all_goals
    refine ⟨.inl rfl, ?_⟩
    conv => whnf
    refine ⟨[], ⟨rfl, trivial⟩, ?_, rfl, rfl⟩
    conv => whnf
    left
    conv => lhs; whnf
    try exact congrArg (AV.int .i64) (by omega)
theorem RHeldRun_marks {xs : List AV} {b k : Int} {n : Nat} (h : xs = [runV (marks k n) b, .int .i64 k]) (h1 : n ≤ 1073741824) (h3 : 0 ≤ k ∧ k ≤ 1073741824) : RHeldRun xs (.int .i64 (k + n)) [] := by
  have := RHeldRun_eq h (by rw [length_marks]; exact h1) h3.1 h3.2
  unfold heldI at this
  rw [length_marks, if_pos rfl] at this
  exact this
theorem snap_rn {h : Heap} {i n : Nat} {st : List Int} {b : Int} (hi : h i = some (.arr 1 (ints st))) (hn : st.length = n) : (AV.agg [.ref i 0 n, .int .i64 b]).snap h = runV st b := snap_agg (cells_cons (snap1_all hi (by rw [length_ints, hn])) (cells_cons rfl rfl))
def c_laws_markEdgeS : ICode := (.seq (.reg [Ol 4 .mv [ci 0]]) (.seq (.seq (.reg [Ol 5 .mv [ci 0]]) (.block 0 (.loop (.seq (.seq (.reg [O1 6 .mv 5, O1 7 .mv 0, O1 8 .len 7, O2 9 (.bin .lss) 6 8]) (.cond (.t 9) .skip (.exit 0))) (.seq (.block 1 (.seq (.reg [O1 12 .mv 0, O1 13 .mv 5, O1 14 .mv 1, O2 15 (.iadr 4) 12 13, O1 16 (.fadr 0) 15, S2 (.st 1) 16 14]) (.seq (.reg [O1 17 .mv 1, Ol 18 (.bin .add) [.t 17, ci 1], O1 1 .mv 18]) (.seq (.reg [O1 19 .mv 0, O1 20 .mv 5, O1 21 .mv 1, O2 22 (.iadr 4) 19 20, O1 23 (.fadr 1) 22, S2 (.st 1) 23 21]) (.seq (.reg [O1 24 .mv 1, Ol 25 (.bin .add) [.t 24, ci 1], O1 1 .mv 25]) (.seq (.reg [O1 26 .mv 0, O1 27 .mv 5, O1 28 .mv 1, O2 29 (.iadr 4) 26 27, O1 30 (.fadr 2) 29, S2 (.st 1) 30 28]) (.seq (.reg [O1 31 .mv 1, Ol 32 (.bin .add) [.t 31, ci 1], O1 1 .mv 32]) (.seq (.reg [O1 33 .mv 0, O1 34 .mv 5, O1 35 .mv 1, Ol 36 (.bin .rem) [.t 35, ci 3], Ol 37 (.bin .eql) [.t 36, ci 0], O2 38 (.iadr 4) 33 34, O1 39 (.fadr 3) 38, S2 (.st 1) 39 37]) (.reg [O1 40 .mv 1, Ol 41 (.bin .add) [.t 40, ci 1], O1 1 .mv 41]))))))))) (.reg [O1 10 .mv 5, Ol 11 (.bin .add) [.t 10, ci 1], O1 5 .mv 11])))))) (.seq (.reg [O1 42 .mv 1, O1 4 .mv 42]) .ret)))
theorem b_laws_markEdgeS : Body Try.prog 88 43 c_laws_markEdgeS [(.t 4)] := body_mk Try.func88 (by kernel_rfl) (by decide)
def c_laws_markAuto : ICode := (.seq (.reg [O1 2 (.box 4) 0, Ol 4 .mv [ci 0]]) (.seq (.reg [O1 5 (.fadr 3) 2, O1 6 .ld1 5, O1 7 .mv 1, O2 8 (.call 88) 6 7, O1 1 .mv 8]) (.seq (.reg [O1 9 .mv 1, O1 4 .mv 9]) .ret)))
theorem b_laws_markAuto : Body Try.prog 24 10 c_laws_markAuto [(.t 4)] := body_mk Try.func24 (by kernel_rfl) (by decide)
def markE (k : Int) (i : Nat) : EdgeD := ⟨k + 4 * i, k + 4 * i + 1, k + 4 * i + 2, (k + 4 * i + 3).tmod 3 == 0⟩
def marksE (k : Int) (n : Nat) : List EdgeD := (List.range n).map (markE k)
@[simp] theorem length_marksE (k : Int) (n : Nat) : (marksE k n).length = n := by simp [marksE]
theorem marksE_succ (k : Int) (n : Nat) : marksE k (n + 1) = marksE k n ++ [markE k n] := by simp [marksE, List.range_succ]
theorem over_set {α : Type} {f : α → List AV} {p l : List α} {y : α} {i : Nat} (hp : p.length = i) (hi : i < l.length) : ((p ++ l.drop i).map f).set i (f y) = ((p ++ [y]) ++ l.drop (i + 1)).map f := by
  subst hp
  rw [List.drop_eq_getElem_cons hi, List.map_append, List.set_append_right _ _ (by simp)]
  simp only [List.length_map, Nat.sub_self, List.map_cons, List.set_cons_zero, List.map_append, List.append_assoc]
  rfl
theorem over_len {α : Type} {f : α → List AV} {p l : List α} {i : Nat} (hp : p.length = i) (hi : i ≤ l.length) : ((p ++ l.drop i).map f).length = l.length := by
  simp; omega
def GMarkEdgeS : GFun := fun xs objs Q => ∃ l k, xs = [.ref 0 0 l.length, .int .i64 k] ∧ objs = [.arr 4 (edgeRows l)] ∧ l.length ≤ 1073741824 ∧ 0 ≤ k ∧ k ≤ 1152921504606846976 ∧ Q (.int .i64 (k + 4 * l.length)) [some (.arr 4 (edgeRows (marksE k l.length)))]
theorem GMarkEdgeS_mk {l : List EdgeD} {k : Int} {Q : AV → List (Option AObj) → Prop} (h1 : l.length ≤ 1073741824) (h2 : 0 ≤ k) (h3 : k ≤ 1152921504606846976) (hq : Q (.int .i64 (k + 4 * l.length)) [some (.arr 4 (edgeRows (marksE k l.length)))]) :
    GMarkEdgeS [.ref 0 0 l.length, .int .i64 k] [.arr 4 (edgeRows l)] Q := ⟨l, k, rfl, rfl, h1, h2, h3, hq⟩
theorem s_laws_markEdgeS : GenSound Try.prog 88 1 GMarkEdgeS := by
  have hR : Rely Try.prog (ctxOf []) := rely_nil mixed
  refine gen_of_aw b_laws_markEdgeS ?_
  rintro xs objs Q - ⟨l, k, rfl, rfl, h1, h2, h3, hq⟩ -
  refine ⟨by simp, vc2_sound hR _ _ _ _ _ ?_⟩
  conv => whnf
  repeat' ((first | contradiction | (refine And.intro (fun hb => ?_) (fun hb => ?_) <;> first | contradiction | ((try simp only [SB, reduceCtorEq] at hb); try (exfalso; first | contradiction | omega))) | refine G2 ?_ | rw [ints_at (by omega)] | rw [ints_at0 (by omega)] | rw [ints_at' (by omega) (by omega)] | refine G1 ?_ | fail) <;> conv => whnf)
  refine Lp.intro (α := Nat) (fun i => i ≤ l.length) (fun i => l.length - i) (fun i => [(0, .ref 0 0 l.length), (1, .int .i64 (k + 4 * i)), (5, .int .i64 i)]) (fun i => [some (.arr 4 ((marksE k i ++ l.drop i).map edgeRow))]) ?_ ?_
  · refine ⟨0, by omega, [some 0], rfl, rfl, And.intro (And.intro rfl ?_) trivial, ?_⟩
    · simp [marksE, edgeRows]
    · repeat' (first
        | exact trivial
        | refine ⟨?_, ?_⟩
        | fail)
      all_goals first
        | with_reducible rfl
        | (conv => whnf
           try left
           conv => lhs; whnf
           first
             | rfl
             | exact congrArg (AV.int .i64) (by omega)
             | skip)
  · intro i hi
    have hlen := over_len (f := edgeRow) (length_marksE k i) hi
    refine vc2_sound hR _ _ _ _ _ ?_
    conv => whnf
    repeat' ((first | contradiction | (refine And.intro (fun hb => ?_) (fun hb => ?_) <;> first | contradiction | ((try simp only [SB, reduceCtorEq] at hb); try (exfalso; first | contradiction | omega))) | refine G2 ?_ | rw [ints_at (by omega)] | rw [ints_at0 (by omega)] | rw [ints_at' (by omega) (by omega)] | refine G1 ?_ | (rw [map_at0 (f := edgeRow) (by simp [length_marksE]; omega)]) | (rw [List.getElem?_set_self (by (try simp only [List.length_set]); rw [hlen]; omega)]) | fail) <;> conv => whnf)
    · refine ⟨i + 1, by omega, by omega, [some 0], rfl, rfl, And.intro (And.intro rfl ?_) trivial, ?_⟩
      · simp only [List.set_set]
        rw [marksE_succ, ← over_set (length_marksE k i) (by omega)]
        show (List.map edgeRow _).set (0 + ((i : Nat) : Int).toNat) _ = _
        rw [Nat.zero_add]
        refine congrArg (List.set _ _) ?_
        rw [show k + 4 * (i : Int) + 1 + 1 + 1 = k + 4 * i + 3 by omega] at hb
        simp only [edgeRow, markE, List.cons.injEq, AV.int.injEq, AV.bool.injEq, true_and, and_true]
        refine ⟨by omega, ?_⟩
        simp [hb]
      · repeat' (first
          | exact trivial
          | refine ⟨?_, ?_⟩
          | fail)
        all_goals first
          | with_reducible rfl
          | (conv => whnf
             try left
             conv => lhs; whnf
             first
               | rfl
               | exact congrArg (AV.int .i64) (by omega)
               | skip)
    · refine ⟨i + 1, by omega, by omega, [some 0], rfl, rfl, And.intro (And.intro rfl ?_) trivial, ?_⟩
      · simp only [List.set_set]
        rw [marksE_succ, ← over_set (length_marksE k i) (by omega)]
        show (List.map edgeRow _).set (0 + ((i : Nat) : Int).toNat) _ = _
        rw [Nat.zero_add]
        refine congrArg (List.set _ _) ?_
        rw [show k + 4 * (i : Int) + 1 + 1 + 1 = k + 4 * i + 3 by omega] at hb
        simp only [edgeRow, markE, List.cons.injEq, AV.int.injEq, AV.bool.injEq, true_and, and_true]
        refine ⟨by omega, ?_⟩
        simp [hb]
      · repeat' (first
          | exact trivial
          | refine ⟨?_, ?_⟩
          | fail)
        all_goals first
          | with_reducible rfl
          | (conv => whnf
             try left
             conv => lhs; whnf
             first
               | rfl
               | exact congrArg (AV.int .i64) (by omega)
               | skip)
    · have hil : i = l.length := by omega
      refine ⟨.inl rfl, ?_⟩
      conv => whnf
      subst hil
      refine ⟨[some 0], .int .i64 (k + 4 * l.length), [some (.arr 4 (edgeRows (marksE k l.length)))], ⟨rfl, And.intro (And.intro rfl ?_) trivial⟩, .inl rfl, rfl, hq⟩
      simp [edgeRows]
def GMarkAuto : GFun := fun xs objs Q => ∃ (a : AutoD) (k : Int), xs = [.agg [.int .i64 a.letters, .int .i64 a.states, .int .i64 a.start, .ref 0 0 a.edges.length], .int .i64 k] ∧ objs = [.arr 4 (edgeRows a.edges)] ∧ a.edges.length ≤ 1073741824 ∧ 0 ≤ k ∧ k ≤ 1152921504606846976 ∧
  Q (.int .i64 (k + 4 * a.edges.length)) [some (.arr 4 (edgeRows (marksE k a.edges.length)))]
theorem GMarkAuto_mk {a : AutoD} {k : Int} {Q : AV → List (Option AObj) → Prop} (h1 : a.edges.length ≤ 1073741824) (h2 : 0 ≤ k) (h3 : k ≤ 1152921504606846976) (hq : Q (.int .i64 (k + 4 * a.edges.length)) [some (.arr 4 (edgeRows (marksE k a.edges.length)))]) :
    GMarkAuto [.agg [.int .i64 a.letters, .int .i64 a.states, .int .i64 a.start, .ref 0 0 a.edges.length], .int .i64 k] [.arr 4 (edgeRows a.edges)] Q := ⟨a, k, rfl, rfl, h1, h2, h3, hq⟩
theorem s_laws_markAuto : GenSound Try.prog 24 1 GMarkAuto := by
  have hR : Rely Try.prog (ctxOf [(88, .gen 1 GMarkEdgeS)]) := rely_cons b_laws_markEdgeS.has s_laws_markEdgeS (rely_nil mixed)
  refine gen_of_aw b_laws_markAuto ?_
  rintro xs objs Q - ⟨a, k, rfl, rfl, h1, h2, h3, hq⟩ -
  refine ⟨by simp, vc2_sound hR _ _ _ _ _ ?_⟩
  conv => whnf
  repeat' ((first | contradiction | (refine And.intro (fun hb => ?_) (fun hb => ?_) <;> first | contradiction | ((try simp only [SB, reduceCtorEq] at hb); try (exfalso; first | contradiction | omega))) | refine G2 ?_ | rw [ints_at (by omega)] | rw [ints_at0 (by omega)] | rw [ints_at' (by omega) (by omega)] | refine G1 ?_ | refine ⟨GMarkEdgeS_mk (by omega) (by omega) (by omega) ?_⟩ | fail) <;> conv => whnf)
  refine ⟨.inl rfl, ?_⟩
  conv => whnf
  exact ⟨[some 0], .int .i64 (k + 4 * a.edges.length), [some (.arr 4 (edgeRows (marksE k a.edges.length)))], ⟨rfl, And.intro (And.intro rfl rfl) trivial⟩, .inl rfl, rfl, hq⟩
def autoRef (o : Nat) (a : AutoD) : List AV := [.int .i64 a.letters, .int .i64 a.states, .int .i64 a.start, .ref o 0 a.edges.length]
def RToAutoO (xs : List AV) (r : AV) (objs : List AObj) : Prop := ∃ x, xs = [.agg (autoRow x)] ∧ x.edges.length ≤ 1048576 ∧ r = .agg (autoRef 0 x) ∧ objs = [.arr 4 (edgeRows x.edges)]
theorem RToAutoO_mk {x : AutoD} (h : x.edges.length ≤ 1048576) : RToAutoO [.agg (autoRow x)] (.agg (autoRef 0 x)) [.arr 4 (edgeRows x.edges)] := ⟨x, rfl, h, rfl, rfl⟩
theorem o_laws_toAuto : PureSound Try.prog 15 RToAutoO := by
  have hR : Rely Try.prog (ctxOf [(77, .pure RToEdgeS)]) := rely_cons b_laws_toEdgeS.has s_laws_toEdgeS (rely_nil mixed)
  refine pure_of_aw b_laws_toAuto ?_
  rintro xs r objs ⟨x, rfl, hx, rfl, rfl⟩ -
  refine ⟨by simp, vc2_sound hR _ _ _ _ _ ?_⟩
  conv => whnf
  repeat' ((first | contradiction | (refine And.intro (fun hb => ?_) (fun hb => ?_) <;> first | contradiction | ((try simp only [SB, reduceCtorEq] at hb); try (exfalso; first | contradiction | omega))) | refine G2 ?_ | rw [ints_at (by omega)] | rw [ints_at0 (by omega)] | rw [ints_at' (by omega) (by omega)] | refine G1 ?_ | refine ⟨_, _, RToEdgeS_mk hx, ?_⟩ | fail) <;> conv => whnf)
  refine ⟨.inl rfl, ?_⟩
  conv => whnf
  refine And.intro (Nat.le_of_ble_eq_true rfl) ?_
  conv => whnf
  refine ⟨[some 3], ⟨rfl, And.intro (And.intro rfl rfl) trivial⟩, ?_, rfl, by simp [AObj.nov, edgeRows_nov]⟩
  exact And.intro (.inl rfl) (And.intro (.inl rfl) (And.intro (.inl rfl) (And.intro rfl trivial)))
theorem snap_auto {h : Heap} {id : Nat} {a : AutoD} (ho : h id = some (.arr 4 (edgeRows a.edges))) : (AV.agg (autoRef id a)).snap h = .agg (autoRow a) :=
  snap_agg (cells_cons rfl (cells_cons rfl (cells_cons rfl (cells_cons (snap1_all ho (length_edgeRows _)) rfl))))
theorem snap_auto2 {h h2 : Heap} {id : Nat} {a : AutoD} (ho : h2 id = some (.arr 4 (edgeRows a.edges))) : (AV.agg ((autoRef id a).map (AV.snap1 h2))).snap h = .agg (autoRow a) :=
  snap_agg (cells_cons rfl (cells_cons rfl (cells_cons rfl (cells_cons (snap1_all2 ho (length_edgeRows _)) rfl))))
theorem REqAuto_eq {xs : List AV} {x y : AutoD} (h : xs = [.agg (autoRow x), .agg (autoRow y)]) : REqAuto xs (.bool (decide (x = y))) [] := ⟨x, y, h, rfl, rfl⟩
def c_laws_szIntS : ICode := (.seq (.reg [Ol 4 .mv [ci 0]]) (.seq (.reg [O1 5 .mv 1, O1 6 .mv 0, O1 7 .len 6, O2 8 (.bin .sub) 5 7, O1 1 .mv 8]) (.seq (.seq (.reg [O1 9 .mv 1, Ol 10 (.bin .lss) [.t 9, ci 0]]) (.cond (.t 10) (.seq (.reg [Ol 4 .mv [ci (-1)]]) .ret) .skip)) (.seq (.reg [O1 11 .mv 1, O1 4 .mv 11]) .ret))))
theorem b_laws_szIntS : Body Try.prog 82 12 c_laws_szIntS [(.t 4)] := body_mk Try.func82 (by kernel_rfl) (by decide)
def c_laws_szWord : ICode := (.seq (.reg [O1 2 (.box 2) 0, Ol 4 .mv [ci 0]]) (.seq (.reg [O1 5 (.fadr 0) 2, O1 6 .ld1 5, O1 7 .mv 1, O2 8 (.call 82) 6 7, O1 1 .mv 8]) (.seq (.seq (.reg [O1 9 .mv 1, Ol 10 (.bin .lss) [.t 9, ci 0]]) (.cond (.t 10) (.seq (.reg [Ol 4 .mv [ci (-1)]]) .ret) .skip)) (.seq (.reg [O1 11 (.fadr 1) 2, O1 12 .ld1 11, O1 13 .mv 1, O2 14 (.call 82) 12 13, O1 1 .mv 14]) (.seq (.seq (.reg [O1 15 .mv 1, Ol 16 (.bin .lss) [.t 15, ci 0]]) (.cond (.t 16) (.seq (.reg [Ol 4 .mv [ci (-1)]]) .ret) .skip)) (.seq (.reg [O1 17 .mv 1, O1 4 .mv 17]) .ret))))))
theorem b_laws_szWord : Body Try.prog 18 18 c_laws_szWord [(.t 4)] := body_mk Try.func18 (by kernel_rfl) (by decide)
def c_laws_toIntS : ICode := (.seq (.reg [Ol 2 .mv [.c .snil]]) (.seq (.reg [O1 5 .mv 0, O1 6 .len 5, O2 7 (.mks 1 8 [(.int .i64 0)]) 6 6, O1 3 .mv 7]) (.seq (.seq (.reg [Ol 4 .mv [ci 0]]) (.block 0 (.loop (.seq (.seq (.reg [O1 8 .mv 4, O1 9 .mv 0, O1 10 .len 9, O2 11 (.bin .lss) 8 10]) (.cond (.t 11) .skip (.exit 0))) (.seq (.block 1 (.reg [O1 14 .mv 3, O1 15 .mv 4, O1 16 .mv 0, O1 17 .mv 4, O2 18 (.iadr 1) 16 17, O1 19 .ld1 18, O2 20 (.iadr 1) 14 15, S2 (.st 1) 20 19])) (.reg [O1 12 .mv 4, Ol 13 (.bin .add) [.t 12, ci 1], O1 4 .mv 13])))))) (.seq (.reg [O1 21 .mv 3, O1 2 .mv 21]) .ret))))
theorem b_laws_toIntS : Body Try.prog 84 22 c_laws_toIntS [(.t 2)] := body_mk Try.func84 (by kernel_rfl) (by decide)
def c_laws_toWord : ICode := (.seq (.reg [O1 1 (.box 2) 0, O0 2 (.alc [.snil, .snil])]) (.seq (.reg [O0 3 (.alc [.snil, .snil])]) (.seq (.reg [O1 4 (.fadr 0) 1, O1 5 .ld1 4, O1 6 (.call 84) 5, O1 7 (.fadr 0) 3, S2 (.st 1) 7 6]) (.seq (.reg [O1 8 (.fadr 1) 1, O1 9 .ld1 8, O1 10 (.call 84) 9, O1 11 (.fadr 1) 3, S2 (.st 1) 11 10]) (.seq (.reg [O1 12 (.ldn 2) 3, S2 (.st 2) 2 12]) .ret)))))
theorem b_laws_toWord : Body Try.prog 20 13 c_laws_toWord [(.cn 2 2)] := body_mk Try.func20 (by kernel_rfl) (by decide)
def RSzIntS (xs : List AV) (r : AV) (objs : List AObj) : Prop := ∃ l n, xs = [.val (ints l), .int .i64 n] ∧ -1 ≤ n ∧ n ≤ 1048576 ∧ r = .int .i64 (if n - l.length < 0 then -1 else n - l.length) ∧ objs = []
theorem RSzIntS_mk {l : List Int} {n : Int} (h1 : -1 ≤ n) (h2 : n ≤ 1048576) : RSzIntS [.val (ints l), .int .i64 n] (.int .i64 (if n - l.length < 0 then -1 else n - l.length)) [] := ⟨l, n, rfl, h1, h2, rfl, rfl⟩
theorem s_laws_szIntS : PureSound Try.prog 82 RSzIntS := by
  have hR : Rely Try.prog (ctxOf []) := rely_nil mixed
  refine pure_of_aw b_laws_szIntS ?_
  rintro xs r objs ⟨l, n, rfl, h1, h2, rfl, rfl⟩ ⟨w, own, vs, hrel⟩
  have hl : (ints l).length ≤ 9223372036854775807 := by
    obtain ⟨v, hv⟩ := rels_at hrel (i := 0) rfl
    exact rel_len hv
  clear hrel
  refine ⟨by simp, vc2_sound hR _ _ _ _ _ ?_⟩
  conv => whnf
  repeat' ((first | contradiction | (refine And.intro (fun hb => ?_) (fun hb => ?_) <;> first | contradiction | ((try simp only [SB, reduceCtorEq] at hb); try (exfalso; first | contradiction | omega))) | refine G2 ?_ | rw [ints_at (by omega)] | rw [ints_at0 (by omega)] | rw [ints_at' (by omega) (by omega)] | refine G1 ?_ | fail) <;> conv => whnf)
  · refine ⟨.inl rfl, ?_⟩
    conv => whnf
    refine ⟨[], ⟨rfl, trivial⟩, ?_, rfl, rfl⟩
    conv => whnf
    left
    conv => lhs; whnf
    exact congrArg (AV.int .i64) (by rw [if_pos hb])
  · refine ⟨.inl rfl, ?_⟩
    conv => whnf
    refine ⟨[], ⟨rfl, trivial⟩, ?_, rfl, rfl⟩
    conv => whnf
    left
    conv => lhs; whnf
    exact congrArg (AV.int .i64) (by rw [if_neg (by omega), length_ints])
def leftS (n : Int) (l : List Int) : Int := if n - l.length < 0 then -1 else n - l.length
theorem leftS_le {n : Int} {l : List Int} (h1 : -1 ≤ n) (h2 : n ≤ 1048576) : -1 ≤ leftS n l ∧ leftS n l ≤ 1048576 := by
  unfold leftS; split <;> omega
theorem take_succ_getD {l : List Int} {i : Nat} (h : i < l.length) : l.take (i + 1) = l.take i ++ [l.getD i 0] := take_succ_D h
def RSzWord (xs : List AV) (r : AV) (objs : List AObj) : Prop := ∃ s l n, xs = [word s l, .int .i64 n] ∧ 0 ≤ n ∧ n ≤ 1048576 ∧ r = .int .i64 (if n - s.length - l.length < 0 then -1 else n - s.length - l.length) ∧ objs = []
theorem RSzWord_mk {s l : List Int} {n : Int} (h1 : 0 ≤ n) (h2 : n ≤ 1048576) : RSzWord [word s l, .int .i64 n] (.int .i64 (if n - s.length - l.length < 0 then -1 else n - s.length - l.length)) [] := ⟨s, l, n, rfl, h1, h2, rfl, rfl⟩
theorem s_laws_szWord : PureSound Try.prog 18 RSzWord := by
  have hR : Rely Try.prog (ctxOf [(82, .pure RSzIntS)]) := rely_cons b_laws_szIntS.has s_laws_szIntS (rely_nil mixed)
  refine pure_of_aw b_laws_szWord ?_
  rintro xs r objs ⟨s, l, n, rfl, h1, h2, rfl, rfl⟩ -
  refine ⟨by simp, vc2_sound hR _ _ _ _ _ ?_⟩
  have hle := leftS_le (n := n) (l := s) (by omega) h2
  conv => whnf
  repeat' ((first | contradiction | (refine And.intro (fun hb => ?_) (fun hb => ?_) <;> first | contradiction | ((try simp only [SB, reduceCtorEq] at hb); try (exfalso; first | contradiction | omega))) | refine G2 ?_ | rw [ints_at (by omega)] | rw [ints_at0 (by omega)] | rw [ints_at' (by omega) (by omega)] | refine G1 ?_ | refine ⟨_, _, RSzIntS_mk (by omega) h2, ?_⟩ | fail) <;> conv => whnf)
  · refine ⟨.inl rfl, ?_⟩
    conv => whnf
    refine ⟨[], ⟨rfl, trivial⟩, ?_, rfl, rfl⟩
    conv => whnf
    left
    conv => lhs; whnf
    exact congrArg (AV.int .i64) (by split at hb <;> (try rw [if_pos (by omega)]) <;> omega)
  · conv => whnf
    repeat' ((first | contradiction | (refine And.intro (fun hb => ?_) (fun hb => ?_) <;> first | contradiction | ((try simp only [SB, reduceCtorEq] at hb); try (exfalso; first | contradiction | omega))) | refine G2 ?_ | rw [ints_at (by omega)] | rw [ints_at0 (by omega)] | rw [ints_at' (by omega) (by omega)] | refine G1 ?_ | refine ⟨_, _, RSzIntS_mk (n := leftS n s) hle.1 hle.2, ?_⟩ | fail) <;> conv => whnf)
    · refine ⟨.inl rfl, ?_⟩
      conv => whnf
      refine ⟨[], ⟨rfl, trivial⟩, ?_, rfl, rfl⟩
      conv => whnf
      left
      conv => lhs; whnf
      exact congrArg (AV.int .i64) (by unfold leftS at hb; split at hb <;> (try split at hb) <;> (try rw [if_pos (by omega)]) <;> omega)
    · refine ⟨.inl rfl, ?_⟩
      conv => whnf
      refine ⟨[], ⟨rfl, trivial⟩, ?_, rfl, rfl⟩
      conv => whnf
      left
      conv => lhs; whnf
      exact congrArg (AV.int .i64) (by unfold leftS at hb ⊢; split at hb <;> (try split at hb) <;> (try rw [if_neg (by omega)]) <;> omega)
def RToIntS (xs : List AV) (r : AV) (objs : List AObj) : Prop := ∃ l, xs = [.val (ints l)] ∧ l.length ≤ 1048576 ∧ r = .ref 0 0 l.length ∧ objs = [.arr 1 (ints l)]
theorem RToIntS_mk {l : List Int} (h : l.length ≤ 1048576) : RToIntS [.val (ints l)] (.ref 0 0 l.length) [.arr 1 (ints l)] := ⟨l, rfl, h, rfl, rfl⟩
theorem fill_step {l : List Int} {i : Nat} (hi : i < l.length) : (ints (l.take i ++ List.replicate (l.length - i) 0)).set i [.int .i64 (l.getD i 0)] = ints (l.take (i + 1) ++ List.replicate (l.length - (i + 1)) 0) := by
  rw [take_succ_getD hi]
  have e : l.length - i = (l.length - (i + 1)) + 1 := by omega
  rw [e, List.replicate_succ]
  simp [ints, List.set_append, Nat.min_eq_left (Nat.le_of_lt hi)]
theorem s_laws_toIntS : PureSound Try.prog 84 RToIntS := by
  have hR : Rely Try.prog (ctxOf []) := rely_nil mixed
  refine pure_of_aw b_laws_toIntS ?_
  rintro xs r objs ⟨l, rfl, hl, rfl, rfl⟩ -
  have hle0 := length_ints l
  refine ⟨by simp, vc2_sound hR _ _ _ _ _ ?_⟩
  conv => whnf
  repeat' ((first | contradiction | (refine And.intro (fun hb => ?_) (fun hb => ?_) <;> first | contradiction | ((try simp only [SB, reduceCtorEq] at hb); try (exfalso; first | contradiction | omega))) | refine G2 ?_ | rw [ints_at (by omega)] | rw [ints_at0 (by omega)] | rw [ints_at' (by omega) (by omega)] | refine G1 ?_ | fail) <;> conv => whnf)
  refine Lp.intro (α := Nat) (fun i => i ≤ l.length) (fun i => l.length - i) (fun i => [(0, .val (ints l)), (3, .ref 0 0 l.length), (4, .int .i64 i)]) (fun i => [some (.arr 1 (ints (l.take i ++ List.replicate (l.length - i) 0)))]) ?_ ?_
  · refine ⟨0, by omega, [some 0], rfl, rfl, And.intro (And.intro rfl ?_) trivial, ?_⟩
    · show List.replicate ((ints l).length : Int).toNat _ = _
      simp [ints]
    · repeat' (first
        | exact trivial
        | refine ⟨?_, ?_⟩
        | fail)
      all_goals first
        | with_reducible rfl
        | (conv => whnf
           try left
           conv => lhs; whnf
           first
             | rfl
             | exact congrArg (AV.int .i64) (by omega)
             | skip)
      exact congrArg (AV.ref 0 0) (by simp [ints])
  · intro i hi
    refine vc2_sound hR _ _ _ _ _ ?_
    by_cases hlt : i < l.length
    · conv => whnf
      repeat' ((first | contradiction | (refine And.intro (fun hb => ?_) (fun hb => ?_) <;> first | contradiction | ((try simp only [SB, reduceCtorEq] at hb); try (exfalso; first | contradiction | omega))) | refine G2 ?_ | rw [ints_at (by omega)] | rw [ints_at0 (by omega)] | rw [ints_at' (by omega) (by omega)] | refine G1 ?_ | fail) <;> conv => whnf)
      rw [ints_at0 (by simp; omega)]
      conv => whnf
      repeat' ((first | contradiction | (refine And.intro (fun hb => ?_) (fun hb => ?_) <;> first | contradiction | ((try simp only [SB, reduceCtorEq] at hb); try (exfalso; first | contradiction | omega))) | refine G2 ?_ | rw [ints_at (by omega)] | rw [ints_at0 (by omega)] | rw [ints_at' (by omega) (by omega)] | refine G1 ?_ | fail) <;> conv => whnf)
      refine ⟨i + 1, by omega, by omega, [some 0], rfl, rfl, And.intro (And.intro rfl ?_) trivial, ?_⟩
      · show (ints _).set (0 + ((i : Nat) : Int).toNat) [.int .i64 (l.getD i 0)] = _
        rw [Nat.zero_add]
        exact fill_step hlt
      · repeat' (first
          | exact trivial
          | refine ⟨?_, ?_⟩
          | fail)
        all_goals first
          | with_reducible rfl
          | (conv => whnf
             try left
             conv => lhs; whnf
             first
               | rfl
               | exact congrArg (AV.int .i64) (by omega)
               | skip)
    · conv => whnf
      repeat' ((first | contradiction | (refine And.intro (fun hb => ?_) (fun hb => ?_) <;> first | contradiction | ((try simp only [SB, reduceCtorEq] at hb); try (exfalso; first | contradiction | omega))) | refine G2 ?_ | rw [ints_at (by omega)] | rw [ints_at0 (by omega)] | rw [ints_at' (by omega) (by omega)] | refine G1 ?_ | fail) <;> conv => whnf)
      refine ⟨.inl rfl, ?_⟩
      conv => whnf
      refine ⟨[some 0], ⟨rfl, And.intro (And.intro rfl ?_) trivial⟩, rfl, rfl, by simp [AObj.nov, ints_nov]⟩
      have : i = l.length := by omega
      subst this
      simp
def RToWord (xs : List AV) (r : AV) (objs : List AObj) : Prop := ∃ s l, xs = [word s l] ∧ s.length ≤ 1048576 ∧ l.length ≤ 1048576 ∧ r = .agg [.ref 0 0 s.length, .ref 1 0 l.length] ∧ objs = [.arr 1 (ints s), .arr 1 (ints l)]
theorem RToWord_mk {s l : List Int} (h1 : s.length ≤ 1048576) (h2 : l.length ≤ 1048576) : RToWord [word s l] (.agg [.ref 0 0 s.length, .ref 1 0 l.length]) [.arr 1 (ints s), .arr 1 (ints l)] := ⟨s, l, rfl, h1, h2, rfl, rfl⟩
theorem s_laws_toWord : PureSound Try.prog 20 RToWord := by
  have hR : Rely Try.prog (ctxOf [(84, .pure RToIntS)]) := rely_cons b_laws_toIntS.has s_laws_toIntS (rely_nil mixed)
  refine pure_of_aw b_laws_toWord ?_
  rintro xs r objs ⟨s, l, rfl, h1, h2, rfl, rfl⟩ -
  refine ⟨by simp, vc2_sound hR _ _ _ _ _ ?_⟩
  conv => whnf
  repeat' ((first | contradiction | (refine And.intro (fun hb => ?_) (fun hb => ?_) <;> first | contradiction | ((try simp only [SB, reduceCtorEq] at hb); try (exfalso; first | contradiction | omega))) | refine G2 ?_ | rw [ints_at (by omega)] | rw [ints_at0 (by omega)] | rw [ints_at' (by omega) (by omega)] | refine G1 ?_ | refine ⟨_, _, RToIntS_mk h1, ?_⟩ | fail) <;> conv => whnf)
  conv => whnf
  repeat' ((first | contradiction | (refine And.intro (fun hb => ?_) (fun hb => ?_) <;> first | contradiction | ((try simp only [SB, reduceCtorEq] at hb); try (exfalso; first | contradiction | omega))) | refine G2 ?_ | rw [ints_at (by omega)] | rw [ints_at0 (by omega)] | rw [ints_at' (by omega) (by omega)] | refine G1 ?_ | refine ⟨_, _, RToIntS_mk h2, ?_⟩ | fail) <;> conv => whnf)
  refine ⟨.inl rfl, ?_⟩
  conv => whnf
  refine And.intro (Nat.le_of_ble_eq_true rfl) ?_
  conv => whnf
  refine ⟨[some 3, some 4], ⟨rfl, And.intro (And.intro rfl rfl) (And.intro (And.intro rfl rfl) trivial)⟩, And.intro rfl (And.intro rfl trivial), rfl, by simp [AObj.nov, ints_nov]⟩
end Go.Proofs.Ythanhknkoikbfaa.Ct
namespace Go.Proofs.Ythanhknkoikbfaa.Ct
open Go Go.Proofs Go.Proofs.Ythanhknkoikbfaa.Av Go.Proofs.Ythanhknkoikbfaa.Pl
def c_laws_FnExactRunOf : ICode := (.seq (.reg [O1 2 (.box 4) 0, O1 3 (.box 2) 1, Ol 4 .mv [cb false]]) (.seq (.reg [Ol 5 .mv [ci 1048576]]) (.seq (.reg [O1 17 (.ldn 4) 2, O1 18 .mv 5, O2 19 (.call 13) 17 18, O1 5 .mv 19]) (.seq (.seq (.reg [O1 20 .mv 5, Ol 21 (.bin .lss) [.t 20, ci 0]]) (.cond (.t 21) (.seq (.reg [Ol 4 .mv [cb true]]) .ret) .skip)) (.seq (.reg [O1 22 (.ldn 2) 3, O1 23 .mv 5, O2 24 (.call 18) 22 23, O1 5 .mv 24]) (.seq (.seq (.reg [O1 25 .mv 5, Ol 26 (.bin .lss) [.t 25, ci 0]]) (.cond (.t 26) (.seq (.reg [Ol 4 .mv [cb true]]) .ret) .skip)) (.seq (.drs [O1 28 (.ldn 4) 2, O1 29 (.call 15) 28, O1 30 (.ldn 2) 3, O1 31 (.call 20) 30, O2 32 (.call 30) 29 31, O1 27 .mv 32, O1 33 (.ext 0) 27, O1 34 (.ext 1) 27] [O0 6 (.alc [.snil, (.int .i64 0)]), S2 (.st 2) 6 33, O1 7 .mv 34]) (.seq (.reg [O1 35 (.ldn 4) 2, O1 36 (.call 15) 35, O0 8 (.alc [(.int .i64 0), (.int .i64 0), (.int .i64 0), .snil]), S2 (.st 4) 8 36]) (.seq (.reg [O1 37 (.ldn 2) 3, O1 38 (.call 20) 37, O0 9 (.alc [.snil, .snil]), S2 (.st 2) 9 38]) (.seq (.reg [O1 40 (.ldn 4) 8, O1 41 (.ldn 2) 9, O2 42 (.call 31) 40 41, O1 39 .mv 42, O1 43 (.ext 0) 39, O1 44 (.ext 1) 39, O0 10 (.alc [.snil, (.int .i64 0)]), S2 (.st 2) 10 43, O1 11 .mv 44]) (.seq (.seq (.reg [O1 45 (.ldn 2) 10, O1 46 (.ldn 2) 6, O2 47 (.call 32) 45 46, O1 48 .not 47, O1 49 .mv 48, Og 50 .mv [.t 11] 49 false, Og 51 .mv [.t 7] 49 false, Og 52 (.beq true) [.t 50, .t 51] 49 false, Ol 53 .pick [.t 49, cb true, .t 52]]) (.cond (.t 53) (.seq (.reg [Ol 4 .mv [cb false]]) .ret) .skip)) (.seq (.seq (.drw [O1 54 (.ldn 4) 8, O1 55 (.ldn 4) 2, O1 56 (.call 15) 55, O2 57 (.call 17) 54 56, O1 58 .not 57] (unB [0, 0, 2, 7, 15] 0) true true) (.cond (.t 58) (.seq (.reg [Ol 4 .mv [cb false]]) .ret) .skip)) (.seq (.seq (.drw [O1 59 (.ldn 2) 9, O1 60 (.ldn 2) 3, O1 61 (.call 20) 60, O2 62 (.call 23) 59 61, O1 63 .not 62] (unB [0, 0, 2, 7, 15] 0) true true) (.cond (.t 63) (.seq (.reg [Ol 4 .mv [cb false]]) .ret) .skip)) (.seq (.reg [Ol 12 .mv [ci 1]]) (.seq (.reg [O1 64 (.ldn 4) 8, O1 65 .mv 12, O2 66 (.call 24) 64 65, O1 12 .mv 66]) (.seq (.reg [O1 67 (.ldn 2) 9, O1 68 .mv 12, O2 69 (.call 25) 67 68, O1 12 .mv 69]) (.seq (.seq (.reg [O1 70 .mv 12, Ol 71 (.bin .lss) [.t 70, ci 0], O1 72 .mv 71, Og 73 (.ldn 2) [.t 10] 72 false, Og 74 (.ldn 2) [.t 6] 72 false, Og 75 (.call 32) [.t 73, .t 74] 72 false, Og 76 .not [.t 75] 72 false, Ol 77 .pick [.t 72, cb true, .t 76], O1 78 .mv 77, Og 79 .mv [.t 11] 78 false, Og 80 .mv [.t 7] 78 false, Og 81 (.beq true) [.t 79, .t 80] 78 false, Ol 82 .pick [.t 78, cb true, .t 81]]) (.cond (.t 82) (.seq (.reg [Ol 4 .mv [cb false]]) .ret) .skip)) (.seq (.reg [Ol 13 .mv [ci 1]]) (.seq (.reg [O1 83 (.ldn 2) 10, O1 84 .mv 13, O2 85 (.call 33) 83 84, O1 13 .mv 85]) (.seq (.reg [Ol 14 .mv [ci 1]]) (.seq (.reg [O1 86 (.ldn 2) 10, O1 87 .mv 14, O2 88 (.call 34) 86 87, O1 14 .mv 88]) (.seq (.seq (.reg [O1 89 .mv 14, Ol 90 (.bin .lss) [.t 89, ci 0]]) (.cond (.t 90) (.seq (.reg [Ol 4 .mv [cb false]]) .ret) .skip)) (.seq (.seq (.reg [O1 91 .mv 14, O1 92 .mv 13, O2 93 (.bin .neq) 91 92]) (.cond (.t 93) (.seq (.reg [Ol 4 .mv [cb false]]) .ret) .skip)) (.seq (.drs [O1 95 (.ldn 4) 2, O1 96 (.call 15) 95, O1 97 (.ldn 2) 3, O1 98 (.call 20) 97, O2 99 (.call 31) 96 98, O1 94 .mv 99, O1 100 (.ext 0) 94, O1 101 (.ext 1) 94] [O0 15 (.alc [.snil, (.int .i64 0)]), S2 (.st 2) 15 100, O1 16 .mv 101]) (.seq (.seq (.reg [O1 102 (.ldn 2) 15, O1 103 (.ldn 2) 6, O2 104 (.call 32) 102 103, O1 105 .not 104, O1 106 .mv 105, Og 107 .mv [.t 16] 106 false, Og 108 .mv [.t 7] 106 false, Og 109 (.beq true) [.t 107, .t 108] 106 false, Ol 110 .pick [.t 106, cb true, .t 109]]) (.cond (.t 110) (.seq (.reg [Ol 4 .mv [cb false]]) .ret) .skip)) (.seq (.reg [Ol 14 .mv [ci 1]]) (.seq (.reg [O1 111 (.ldn 2) 10, O1 112 .mv 14, O2 113 (.call 34) 111 112, O1 14 .mv 113]) (.seq (.seq (.reg [O1 114 .mv 14, Ol 115 (.bin .lss) [.t 114, ci 0]]) (.cond (.t 115) (.seq (.reg [Ol 4 .mv [cb false]]) .ret) .skip)) (.seq (.seq (.reg [O1 116 .mv 14, O1 117 .mv 13, O2 118 (.bin .neq) 116 117]) (.cond (.t 118) (.seq (.reg [Ol 4 .mv [cb false]]) .ret) .skip)) (.seq (.reg [Ol 4 .mv [cb true]]) .ret))))))))))))))))))))))))))))))
theorem b_laws_FnExactRunOf : Body Try.prog 6 119 c_laws_FnExactRunOf [(.t 4)] := body_mk Try.func6 (by kernel_rfl) (by decide)
theorem snap_wo {h : Heap} {i j n m : Nat} {s l : List Int} (hi : h i = some (.arr 1 (ints s))) (hj : h j = some (.arr 1 (ints l))) (hn : s.length = n) (hm : l.length = m) : (AV.agg [.ref i 0 n, .ref j 0 m]).snap h = wordV s l :=
  snap_agg (cells_cons (snap1_all hi (by rw [length_ints, hn])) (cells_cons (snap1_all hj (by rw [length_ints, hm])) rfl))
theorem snap_wo2 {h h2 : Heap} {i j n m : Nat} {s l : List Int} (hi : h2 i = some (.arr 1 (ints s))) (hj : h2 j = some (.arr 1 (ints l))) (hn : s.length = n) (hm : l.length = m) : (AV.agg ([.ref i 0 n, .ref j 0 m].map (AV.snap1 h2))).snap h = wordV s l :=
  snap_agg (cells_cons (snap1_all2 hi (by rw [length_ints, hn])) (cells_cons (snap1_all2 hj (by rw [length_ints, hm])) rfl))
theorem sayR_small {a : AutoD} {s l : List Int} : (sayR a s l).1.1.length ≤ 5000 := by
  unfold sayR
  split
  · rename_i h
    cases hr : (runW a s l).2 with
    | false => rw [runW_no hr]; simp
    | true =>
      obtain ⟨b, hb, hp, hlen⟩ := runW_ok h.1 h.2 hr
      obtain ⟨_, h1, h2, _⟩ := let_ok h.2
      have h3 := h.1.1.2.1
      have hNN : (s.length + l.length) * a.states.toNat ≤ 80 * 31 := Nat.mul_le_mul (by omega) (by omega)
      omega
  · simp
theorem snap_rv {st : List Int} {b : Int} : List.map (AV.snap1 (objsH [AObj.arr 1 (ints st)])) [.ref 0 0 st.length, .int .i64 b] = [.val (ints st), .int .i64 b] := cells_cons (snap1_all rfl (length_ints st)) (cells_cons rfl rfl)
def RTrueAW (xs : List AV) (r : AV) (objs : List AObj) : Prop := ∃ a s l, xs = [.agg (autoRow a), wordV s l] ∧ r = .bool true ∧ objs = []
set_option maxRecDepth 4000 in
set_option maxHeartbeats 16000000 in
theorem s_laws_FnExactRunOf : PureSound Try.prog 6 RTrueAW := by
  have hR : Rely Try.prog (ctxOf [(13, .pure RSzAuto), (18, .pure RSzWord), (15, .pure RToAutoO), (20, .pure RToWord), (30, .pure RRunOf), (31, .pure RRunOf), (32, .pure REqRun), (23, .pure REqWord), (17, .pure REqAuto),
    (24, .gen 1 GMarkAuto), (25, .gen 2 GMarkWord), (33, .gen 1 GMarkRun), (34, .pure RHeldRun)]) :=
    rely_cons b_laws_szAuto.has s_laws_szAuto (rely_cons b_laws_szWord.has s_laws_szWord (rely_cons b_laws_toAuto.has o_laws_toAuto (rely_cons b_laws_toWord.has s_laws_toWord (rely_cons b_spec_RunOf.has s_spec_RunOf (rely_cons b_impl_RunOf.has s_impl_RunOf (rely_cons b_laws_eqRun.has s_laws_eqRun (rely_cons b_laws_eqWord.has s_laws_eqWord
      (rely_cons b_laws_eqAuto.has s_laws_eqAuto (rely_cons b_laws_markAuto.has s_laws_markAuto (rely_cons b_laws_markWord.has s_laws_markWord (rely_cons b_laws_markRun.has s_laws_markRun (rely_cons b_laws_heldRun.has s_laws_heldRun (rely_nil mixed)))))))))))))
  refine pure_of_aw b_laws_FnExactRunOf ?_
  rintro xs r objs ⟨a, s, l, rfl, rfl, rfl⟩ -
  refine ⟨by simp, vc2_sound hR _ _ _ _ _ ?_⟩
  conv => whnf
  repeat' ((first | contradiction | (refine And.intro (fun hb => ?_) (fun hb => ?_) <;> first | contradiction | ((try simp only [SB, reduceCtorEq] at hb); try (exfalso; first | contradiction | omega))) | refine G2 ?_ | rw [ints_at (by omega)] | rw [ints_at0 (by omega)] | rw [ints_at' (by omega) (by omega)] | refine G1 ?_ | refine ⟨_, _, RSzAuto_mk (x := a) (by omega) (by omega), ?_⟩ | fail) <;> conv => whnf)
  · refine ⟨.inl rfl, ?_⟩
    conv => whnf
    refine ⟨[], ⟨rfl, trivial⟩, ?_, rfl, rfl⟩
    conv => whnf
    left
    conv => lhs; whnf
  have hs : a.edges.length ≤ 1048576 ∧ 0 ≤ (if 1048576 - ↑a.edges.length < (0 : Int) then -1 else (1048576 : Int) - ↑a.edges.length) ∧ (if 1048576 - ↑a.edges.length < (0 : Int) then -1 else (1048576 : Int) - ↑a.edges.length) ≤ 1048576 := by split at hb <;> split <;> omega
  obtain ⟨hs, hk0, hk1⟩ := hs
  clear hb
  generalize (if 1048576 - ↑a.edges.length < (0 : Int) then -1 else (1048576 : Int) - ↑a.edges.length) = k at *
  conv => whnf
  repeat' ((first | contradiction | (refine And.intro (fun hb => ?_) (fun hb => ?_) <;> first | contradiction | ((try simp only [SB, reduceCtorEq] at hb); try (exfalso; first | contradiction | omega))) | refine G2 ?_ | rw [ints_at (by omega)] | rw [ints_at0 (by omega)] | rw [ints_at' (by omega) (by omega)] | refine G1 ?_ | refine ⟨_, _, RSzWord_mk hk0 hk1, ?_⟩ | fail) <;> conv => whnf)
  · refine ⟨.inl rfl, ?_⟩
    conv => whnf
    refine ⟨[], ⟨rfl, trivial⟩, ?_, rfl, rfl⟩
    conv => whnf
    left
    conv => lhs; whnf
  have hw : s.length ≤ 1048576 ∧ l.length ≤ 1048576 := by split at hb <;> omega
  clear hb
  have hsm := sayR_small (a := a) (s := s) (l := l)
  have hg : ∀ xs, xs = [.agg (autoRow a), wordV s l] → RRunOf xs (runR (sayR a s l)) (runOb (sayR a s l)) := fun xs h => RRunOf_eq h
  generalize sayR a s l = g at hg hsm
  obtain ⟨⟨st, b⟩, ok⟩ := g
  dsimp only at hsm
  have hg' : ∀ xs, xs = [.agg (autoRow a), wordV s l] → RRunOf xs (.tup [.agg [.ref 0 0 st.length, .int .i64 b], .bool ok]) [.arr 1 (ints st)] := hg
  cases ok
  all_goals
    conv => whnf
    repeat' ((first | contradiction | (refine And.intro (fun hb => ?_) (fun hb => ?_) <;> first | contradiction | ((try simp only [SB, reduceCtorEq] at hb); try (exfalso; first | contradiction | omega))) | rw [snap_rv] | refine G2 ?_ | rw [ints_at (by omega)] | rw [ints_at0 (by omega)] | rw [ints_at' (by omega) (by omega)] | refine G1 ?_ | refine ⟨_, _, RToAutoO_mk hs, ?_⟩ | refine ⟨_, _, RToWord_mk hw.1 hw.2, ?_⟩ | refine ⟨_, _, hg' _ (args_cons (snap_auto rfl) (args_cons (snap_wo rfl rfl rfl rfl) rfl)), ?_⟩ | refine ⟨_, _, hg' _ (args_cons (snap_auto2 rfl) (args_cons (snap_wo2 rfl rfl rfl rfl) rfl)), ?_⟩ | refine ⟨_, _, REqRun_eq (st := st) (b := b) (args_cons (snap_rn rfl rfl) (args_cons rfl rfl)), ?_⟩ | refine ⟨_, _, REqRun_eq (st := st) (b := b) rfl, ?_⟩ | refine ⟨_, _, REqAuto_eq (x := a) (y := a) (args_cons (snap_auto rfl) (args_cons (snap_auto rfl) rfl)), ?_⟩ | refine ⟨_, _, REqAuto_eq (x := a) (y := a) (args_cons (snap_auto rfl) (args_cons (snap_auto2 rfl) rfl)), ?_⟩ | refine ⟨_, _, REqWord_eq (s := s) (l := l) (s' := s) (l' := l) (args_cons (snap_wo rfl rfl rfl rfl) (args_cons (snap_wo rfl rfl rfl rfl) rfl)), ?_⟩ | refine ⟨_, _, REqWord_eq (s := s) (l := l) (s' := s) (l' := l) (args_cons (snap_wo rfl rfl rfl rfl) (args_cons (snap_wo2 rfl rfl rfl rfl) rfl)), ?_⟩ | refine ⟨GMarkAuto_mk (a := a) (by omega) (by omega) (by omega) ?_⟩ | refine ⟨GMarkWord_mk (s := s) (l := l) (by omega) (by omega) (by omega) (by omega) ?_⟩ | refine ⟨GMarkRun_mk (st := st) (by omega) (by omega) (by omega) ?_⟩ | refine ⟨_, _, RHeldRun_marks (b := b) (k := 1) (n := st.length) (args_cons (snap_rn rfl (length_marks _ _)) rfl) (by omega) (by omega), ?_⟩ | fail) <;> conv => whnf)
  all_goals
    refine ⟨.inl rfl, ?_⟩
    conv => whnf
    refine ⟨[], ⟨rfl, trivial⟩, ?_, rfl, rfl⟩
    conv => whnf
    left
    conv => lhs; whnf
end Go.Proofs.Ythanhknkoikbfaa.Ct
