/- Part 5 of the proof of FnDegenSaid: CtDraw1 to CtPts2. Conditions: none. -/
import Derived.Test.YthanhknkoikbfaaT4
import Derived.Test.YthanhknkoikbfaaT1
set_option linter.unusedSimpArgs false
set_option linter.unusedVariables false
namespace Go.Proofs.Ythanhknkoikbfaa.Ct
open Go Go.Proofs Go.Proofs.Ythanhknkoikbfaa.Av
abbrev curO (code : List UInt8) (i : Nat) (h : Int) : AObj := .box [.val (code.map byteRow), .int .i64 i, .int .i64 h]
theorem and_255 (a : Int) : 0 ≤ IntKind.i64.wrap (BitVec.ofInt IntKind.i64.bits a &&& BitVec.ofInt IntKind.i64.bits 255).toNat ∧
    IntKind.i64.wrap (BitVec.ofInt IntKind.i64.bits a &&& BitVec.ofInt IntKind.i64.bits 255).toNat ≤ 255 := by
  have hb : IntKind.i64.bits = 64 := rfl
  rw [hb, BitVec.toNat_and]
  have h255 : (BitVec.ofInt 64 255).toNat = 255 := by decide
  rw [h255]
  have : (BitVec.ofInt 64 a).toNat &&& 255 ≤ 255 := Nat.and_le_right
  rw [IntWalk.i64_in _ (by omega)]
  omega
def c_spec_l1New : ICode := (.seq (.reg [Ol 2 .mv [.c .pnil]]) (.seq (.reg [O1 5 .mv 0, O1 6 .len 5, Ol 7 (.bin .add) [ci 10277, .t 6], O1 3 .mv 7]) (.seq (.seq (.reg [Ol 4 .mv [ci 0]]) (.block 0 (.loop (.seq (.seq (.reg [O1 8 .mv 4, O1 9 .mv 0, O1 10 .len 9, O2 11 (.bin .lss) 8 10, O1 12 .mv 11, Og 13 .mv [.t 4] 12 true, Og 14 (.bin .lss) [.t 13, ci 4000] 12 true, Ol 15 .pick [.t 12, .t 14, cb false]]) (.cond (.t 15) .skip (.exit 0))) (.seq (.block 1 (.reg [O1 18 .mv 3, Ol 19 (.bin .mul) [.t 18, ci 131], O1 20 .mv 0, O1 21 .mv 4, O2 22 (.iadr 1) 20 21, O1 23 .ld1 22, O1 24 (.cvt .i64) 23, O2 25 (.bin .add) 19 24, Ol 26 (.bin .add) [.t 25, ci 7], Ol 27 (.bin .and) [.t 26, ci 1073741823], O1 3 .mv 27])) (.reg [O1 16 .mv 4, Ol 17 (.bin .add) [.t 16, ci 1], O1 4 .mv 17])))))) (.seq (.reg [O1 28 .mv 0, O1 29 .mv 3, O2 30 (.bld [.snil, (.int .i64 0), (.int .i64 0)] [(0, 1), (2, 1)]) 28 29, O1 31 (.box 3) 30, O1 2 .mv 31]) .ret))))
theorem b_spec_l1New : Body Try.prog 110 32 c_spec_l1New [(.t 2)] := body_mk Try.func110 (by kernel_rfl) (by decide)
def c_spec_l1Byte : ICode := (.seq (.reg [Ol 2 .mv [ci 0]]) (.seq (.reg [O1 4 .mv 0, O1 5 .mv 0, O1 6 .nck 5, O1 7 (.fadr 2) 6, O1 8 .ld1 7, Ol 9 (.bin .mul) [.t 8, ci 6364136223846793005], Ol 10 (.bin .add) [.t 9, ci 1442695040888963407], O1 11 .nck 4, O1 12 (.fadr 2) 11, S2 (.st 1) 12 10]) (.seq (.drw [O1 13 .mv 0, O1 14 .nck 13, O1 15 (.fadr 2) 14, O1 16 .ld1 15, Ol 17 (.bin .shr) [.t 16, .c (.int .u64 33)], O1 18 .mv 0, O1 19 .nck 18, O1 20 (.fadr 2) 19, O1 21 .ld1 20, Ol 22 (.bin .shr) [.t 21, .c (.int .u64 45)], O2 23 (.bin .xor) 17 22, Ol 24 (.bin .and) [.t 23, ci 255], O1 3 .mv 24] (unB [0, 1, 3, 7, 15, 0, 32, 96, 224, 480, 1023, 2047, 4095] 0) true true) (.seq (.seq (.drw [O1 25 .mv 0, O1 26 .nck 25, O1 27 (.fadr 1) 26, O1 28 .ld1 27, O1 29 .mv 0, O1 30 .nck 29, O1 31 (.fadr 0) 30, O1 32 .ld1 31, O1 33 .len 32, O2 34 (.bin .lss) 28 33] (unB [0, 1, 3, 7, 0, 16, 48, 112, 240, 511] 0) true true) (.cond (.t 34) (.seq (.drw [O1 35 .mv 3, O1 36 .mv 0, O1 37 .nck 36, O1 38 (.fadr 0) 37, O1 39 .ld1 38, O1 40 .mv 0, O1 41 .nck 40, O1 42 (.fadr 1) 41, O1 43 .ld1 42, O2 44 (.iadr 1) 39 43, O1 45 .ld1 44, O1 46 (.cvt .i64) 45, O2 47 (.bin .add) 35 46, Ol 48 (.bin .and) [.t 47, ci 255], O1 3 .mv 48] (unB [0, 0, 2, 6, 14, 0, 32, 96, 224, 510, 1022, 2046, 4095, 8191, 16383] 0) true true) (.reg [O1 49 .mv 0, O1 50 .mv 0, O1 51 .nck 50, O1 52 (.fadr 1) 51, O1 53 .ld1 52, Ol 54 (.bin .add) [.t 53, ci 1], O1 55 .nck 49, O1 56 (.fadr 1) 55, S2 (.st 1) 56 54])) .skip)) (.seq (.reg [O1 57 .mv 3, O1 2 .mv 57]) .ret)))))
theorem b_spec_l1Byte : Body Try.prog 186 58 c_spec_l1Byte [(.t 2)] := body_mk Try.func186 (by kernel_rfl) (by decide)
def c_spec_l1Below : ICode := (.seq (.reg [Ol 4 .mv [ci 0]]) (.seq (.seq (.reg [O1 9 .mv 1, Ol 10 (.bin .leq) [.t 9, ci 0]]) (.cond (.t 10) (.seq (.reg [Ol 4 .mv [ci 0]]) .ret) .skip)) (.seq (.seq (.reg [O1 11 .mv 1, Ol 12 (.bin .leq) [.t 11, ci 256]]) (.cond (.t 12) (.seq (.reg [O1 13 .mv 0, O1 14 (.call 186) 13, O1 15 .mv 1, O2 16 (.bin .rem) 14 15, O1 4 .mv 16]) .ret) .skip)) (.seq (.reg [O1 17 .mv 0, O1 18 (.call 186) 17, O1 5 .mv 18]) (.seq (.reg [O1 19 .mv 0, O1 20 (.call 186) 19, O1 6 .mv 20]) (.seq (.reg [O1 21 .mv 0, O1 22 (.call 186) 21, O1 7 .mv 22]) (.seq (.reg [O1 23 .mv 0, O1 24 (.call 186) 23, O1 8 .mv 24]) (.seq (.reg [O1 25 .mv 5, Ol 26 (.bin .mul) [.t 25, ci 16777216], O1 27 .mv 6, Ol 28 (.bin .mul) [.t 27, ci 65536], O2 29 (.bin .add) 26 28, O1 30 .mv 7, Ol 31 (.bin .mul) [.t 30, ci 256], O2 32 (.bin .add) 29 31, O1 33 .mv 8, O2 34 (.bin .add) 32 33, O1 35 .mv 1, O2 36 (.bin .rem) 34 35, O1 4 .mv 36]) .ret))))))))
theorem b_spec_l1Below : Body Try.prog 137 37 c_spec_l1Below [(.t 4)] := body_mk Try.func137 (by kernel_rfl) (by decide)
def c_spec_l1Once : ICode := (.seq (.reg [Ol 4 .mv [cb false]]) (.seq (.reg [O1 5 .mv 0, O1 6 .mv 1, O2 7 (.call 137) 5 6, Ol 8 (.bin .eql) [.t 7, ci 0], O1 4 .mv 8]) .ret))
theorem b_spec_l1Once : Body Try.prog 139 9 c_spec_l1Once [(.t 4)] := body_mk Try.func139 (by kernel_rfl) (by decide)
def c_spec_l1PickInt : ICode := (.seq (.reg [Ol 4 .mv [ci 0]]) (.seq (.reg [O1 5 .mv 1, O1 6 .mv 0, O1 7 .mv 1, O1 8 .len 7, O2 9 (.call 137) 6 8, O2 10 (.iadr 1) 5 9, O1 11 .ld1 10, O1 4 .mv 11]) .ret))
theorem b_spec_l1PickInt : Body Try.prog 188 12 c_spec_l1PickInt [(.t 4)] := body_mk Try.func188 (by kernel_rfl) (by decide)
def c_spec_l3DrawLetters : ICode := (.seq (.reg [Ol 6 .mv [.c .snil]]) (.seq (.reg [O0 10 .bsle, O1 7 .mv 10]) (.seq (.reg [O1 11 .mv 0, O1 12 .mv 1, Ol 13 (.bin .add) [.t 12, ci 1], O2 14 (.call 137) 11 13, O1 8 .mv 14]) (.seq (.seq (.reg [Ol 9 .mv [ci 0]]) (.block 0 (.loop (.seq (.seq (.reg [O1 15 .mv 9, O1 16 .mv 8, O2 17 (.bin .lss) 15 16]) (.cond (.t 17) .skip (.exit 0))) (.seq (.block 1 (.reg [O1 20 .mv 7, O1 21 .mv 0, O1 22 .mv 2, O2 23 (.call 137) 21 22, O1 24 (.bslv 1) 23, O2 25 (.app 1 8) 20 24, O1 7 .mv 25])) (.reg [O1 18 .mv 9, Ol 19 (.bin .add) [.t 18, ci 1], O1 9 .mv 19])))))) (.seq (.reg [O1 26 .mv 7, O1 6 .mv 26]) .ret)))))
theorem b_spec_l3DrawLetters : Body Try.prog 136 27 c_spec_l3DrawLetters [(.t 6)] := body_mk Try.func136 (by kernel_rfl) (by decide)
def GNew : GFun := fun xs objs Q => ∃ code : List UInt8, xs = [.val (code.map byteRow)] ∧ objs = [] ∧ code.length ≤ 1048576 ∧ ∀ h, Q (.ptr 0 0 0) [some (curO code 0 h)]
theorem GNew_mk {code : List UInt8} {Q : AV → List (Option AObj) → Prop} (h1 : code.length ≤ 1048576) (hq : ∀ h, Q (.ptr 0 0 0) [some (curO code 0 h)]) : GNew [.val (code.map byteRow)] [] Q := ⟨code, rfl, rfl, h1, hq⟩
theorem s_spec_l1New : GenSound Try.prog 110 0 GNew := by
  have hR : Rely Try.prog (ctxOf []) := rely_nil mixed
  refine gen_of_aw b_spec_l1New ?_
  rintro xs objs Q - ⟨code, rfl, rfl, h1, hq⟩ -
  have hbl : (code.map byteRow).length = code.length := by simp
  refine ⟨by simp, vc2_sound hR _ _ _ _ _ ?_⟩
  conv => whnf
  repeat' ((first | (refine And.intro (fun hb => ?_) (fun hb => ?_) <;> ((try simp only [SB, reduceCtorEq] at hb); try (exfalso; omega))) | refine G2 ?_ | rw [ints_at (by omega)] | rw [ints_at0 (by omega)] | rw [ints_at' (by omega) (by omega)] | refine G1 ?_ | fail) <;> conv => whnf)
  generalize (10277 : Int) + ((List.map byteRow code).length : Int) = x0
  refine Lp.intro (α := Nat × Int) (fun a => a.1 ≤ code.length) (fun a => code.length - a.1) (fun a => [(0, .val (code.map byteRow)), (3, .int .i64 a.2), (4, .int .i64 a.1)]) (fun _ => []) ?_ ?_
  · refine ⟨(0, x0), Nat.zero_le _, [], rfl, rfl, trivial, ?_⟩
    exact And.intro (.inl rfl) (And.intro (.inl rfl) (And.intro (.inl rfl) trivial))
  · rintro ⟨i, x⟩ hi
    dsimp only at hi ⊢
    refine vc2_sound hR _ _ _ _ _ ?_
    have h8 := byte_le (code.getD i 0)
    conv => whnf
    repeat' ((first | (refine And.intro (fun hb => ?_) (fun hb => ?_) <;> ((try simp only [SB, reduceCtorEq] at hb); try (exfalso; omega))) | refine G2 ?_ | rw [ints_at (by omega)] | rw [ints_at0 (by omega)] | rw [ints_at' (by omega) (by omega)] | refine G1 ?_ | rw [byte_at (by omega)] | refine ⟨_, rfl, ?_⟩ | fail) <;> conv => whnf)
    · refine ⟨(i + 1, IntKind.i64.wrap (BitVec.ofInt IntKind.i64.bits (IntKind.i64.wrap (IntKind.i64.wrap (IntKind.i64.wrap (x * 131) + (code.getD i 0).toNat) + 7)) &&& BitVec.ofInt IntKind.i64.bits 1073741823).toNat), by dsimp only; omega, by dsimp only; omega, [], rfl, rfl, trivial, ?_⟩
      exact And.intro (.inl rfl) (And.intro (.inl rfl) (And.intro (.inl rfl) trivial))
    all_goals
      refine ⟨.inl rfl, ?_⟩
      conv => whnf
      exact ⟨[some 0], .ptr 0 0 0, [some (curO code 0 x)], ⟨rfl, And.intro (And.intro (.inl rfl) (And.intro (.inl rfl) (And.intro (.inl rfl) trivial))) trivial⟩, rfl, rfl, hq _⟩
def GByte : GFun := fun xs objs Q => ∃ (code : List UInt8) (i : Nat) (h : Int), xs = [.ptr 0 0 0] ∧ objs = [curO code i h] ∧ i ≤ code.length ∧ code.length ≤ 1048576 ∧
  ∀ (x : Int) (i' : Nat) (h' : Int), 0 ≤ x → x ≤ 255 → i' ≤ code.length → Q (.int .i64 x) [some (curO code i' h')]
theorem GByte_mk {code : List UInt8} {i : Nat} {h : Int} {Q : AV → List (Option AObj) → Prop} (h1 : i ≤ code.length) (h2 : code.length ≤ 1048576)
    (hq : ∀ (x : Int) (i' : Nat) (h' : Int), 0 ≤ x → x ≤ 255 → i' ≤ code.length → Q (.int .i64 x) [some (curO code i' h')]) : GByte [.ptr 0 0 0] [curO code i h] Q := ⟨code, i, h, rfl, rfl, h1, h2, hq⟩
theorem s_spec_l1Byte : GenSound Try.prog 186 1 GByte := by
  have hR : Rely Try.prog (ctxOf []) := rely_nil mixed
  refine gen_of_aw b_spec_l1Byte ?_
  rintro xs objs Q - ⟨code, i, h, rfl, rfl, h1, h2, hq⟩ -
  have hbl : (code.map byteRow).length = code.length := by simp
  refine ⟨by simp, vc2_sound hR _ _ _ _ _ ?_⟩
  conv => whnf
  repeat' ((first | (refine And.intro (fun hb => ?_) (fun hb => ?_) <;> ((try simp only [SB, reduceCtorEq] at hb); try (exfalso; omega))) | refine G2 ?_ | rw [ints_at (by omega)] | rw [ints_at0 (by omega)] | rw [ints_at' (by omega) (by omega)] | refine G1 ?_ | rw [byte_at (by omega)] | refine ⟨_, rfl, ?_⟩ | fail) <;> conv => whnf)
  · have h255 := and_255
    refine ⟨.inl rfl, ?_⟩
    conv => whnf
    refine ⟨[some 0], .int .i64 _, [some (curO code (i + 1) _)], ⟨rfl, And.intro (And.intro (.inl rfl) (And.intro (.inl rfl) (And.intro (.inl rfl) trivial))) trivial⟩, .inl rfl, rfl, hq _ _ _ (and_255 _).1 (and_255 _).2 (by omega)⟩
  · refine ⟨.inl rfl, ?_⟩
    conv => whnf
    refine ⟨[some 0], .int .i64 _, [some (curO code i _)], ⟨rfl, And.intro (And.intro (.inl rfl) (And.intro (.inl rfl) (And.intro (.inl rfl) trivial))) trivial⟩, .inl rfl, rfl, hq _ _ _ (and_255 _).1 (and_255 _).2 (by omega)⟩
def GBelow : GFun := fun xs objs Q => ∃ (code : List UInt8) (i : Nat) (h n : Int), xs = [.ptr 0 0 0, .int .i64 n] ∧ objs = [curO code i h] ∧ i ≤ code.length ∧ code.length ≤ 1048576 ∧ n ≤ 1073741824 ∧
  ∀ (x : Int) (i' : Nat) (h' : Int), 0 ≤ x → (x < n ∨ (n ≤ 0 ∧ x = 0)) → i' ≤ code.length → Q (.int .i64 x) [some (curO code i' h')]
theorem GBelow_mk {code : List UInt8} {i : Nat} {h n : Int} {Q : AV → List (Option AObj) → Prop} (h1 : i ≤ code.length) (h2 : code.length ≤ 1048576) (h3 : n ≤ 1073741824)
    (hq : ∀ (x : Int) (i' : Nat) (h' : Int), 0 ≤ x → (x < n ∨ (n ≤ 0 ∧ x = 0)) → i' ≤ code.length → Q (.int .i64 x) [some (curO code i' h')]) : GBelow [.ptr 0 0 0, .int .i64 n] [curO code i h] Q := ⟨code, i, h, n, rfl, rfl, h1, h2, h3, hq⟩
theorem GBelow_nv (xs : List AV) (objs : List AObj) (Q : AV → List (Option AObj) → Prop) (h : GBelow xs objs Q) : ∃ r out, Q r out := by
  obtain ⟨code, i, h, n, _, _, _, _, _, hq⟩ := h
  exact ⟨_, _, hq 0 0 0 (by omega) (by omega) (by omega)⟩
theorem tmod_in {a n : Int} (ha : 0 ≤ a) (hn : 0 < n) : 0 ≤ a.tmod n ∧ a.tmod n < n := ⟨Int.tmod_nonneg n ha, Int.tmod_lt_of_pos a hn⟩
theorem s_spec_l1Below : GenSound Try.prog 137 1 GBelow := by
  have hR : Rely Try.prog (ctxOf [(186, .gen 1 GByte)]) := rely_cons b_spec_l1Byte.has s_spec_l1Byte (rely_nil mixed)
  refine gen_of_aw b_spec_l1Below ?_
  rintro xs objs Q - ⟨code, i, h, n, rfl, rfl, h1, h2, h3, hq⟩ -
  refine ⟨by simp, vc2_sound hR _ _ _ _ _ ?_⟩
  conv => whnf
  repeat' ((first | (refine And.intro (fun hb => ?_) (fun hb => ?_) <;> ((try simp only [SB, reduceCtorEq] at hb); try (exfalso; omega))) | refine G2 ?_ | rw [ints_at (by omega)] | rw [ints_at0 (by omega)] | rw [ints_at' (by omega) (by omega)] | refine G1 ?_ | refine ⟨GByte_mk (by omega) (by omega) (fun x i' h' hx0 hx1 hi' => ?_)⟩ | fail) <;> conv => whnf)
  · refine ⟨.inl rfl, ?_⟩
    conv => whnf
    refine ⟨[some 0], .int .i64 0, [some (curO code i h)], ⟨rfl, And.intro (And.intro (.inl rfl) (And.intro (.inl rfl) (And.intro (.inl rfl) trivial))) trivial⟩, .inl rfl, rfl, hq 0 i h (by omega) (by omega) (by omega)⟩
  · have ht := tmod_in (a := x) (n := n) (by omega) (by omega)
    refine ⟨.inl rfl, ?_⟩
    conv => whnf
    refine ⟨[some 0], .int .i64 (x.tmod n), [some (curO code i' h')], ⟨rfl, And.intro (And.intro (.inl rfl) (And.intro (.inl rfl) (And.intro (.inl rfl) trivial))) trivial⟩, .inl rfl, rfl, hq _ i' h' (by omega) (by omega) (by omega)⟩
  · rename_i x1 _ _ _ _ _ x2 _ _ _ _ _ x3 _ _ _ _ _
    have ht := tmod_in (a := x1 * 16777216 + x2 * 65536 + x3 * 256 + x) (n := n) (by omega) (by omega)
    refine ⟨.inl rfl, ?_⟩
    conv => whnf
    refine ⟨[some 0], .int .i64 ((x1 * 16777216 + x2 * 65536 + x3 * 256 + x).tmod n), [some (curO code i' h')], ⟨rfl, And.intro (And.intro (.inl rfl) (And.intro (.inl rfl) (And.intro (.inl rfl) trivial))) trivial⟩, .inl rfl, rfl, hq _ i' h' (by omega) (by omega) (by omega)⟩
def GOnce : GFun := fun xs objs Q => ∃ (code : List UInt8) (i : Nat) (h n : Int), xs = [.ptr 0 0 0, .int .i64 n] ∧ objs = [curO code i h] ∧ i ≤ code.length ∧ code.length ≤ 1048576 ∧ n ≤ 1073741824 ∧
  ∀ (b : Bool) (i' : Nat) (h' : Int), i' ≤ code.length → Q (.bool b) [some (curO code i' h')]
theorem GOnce_mk {code : List UInt8} {i : Nat} {h n : Int} {Q : AV → List (Option AObj) → Prop} (h1 : i ≤ code.length) (h2 : code.length ≤ 1048576) (h3 : n ≤ 1073741824)
    (hq : ∀ (b : Bool) (i' : Nat) (h' : Int), i' ≤ code.length → Q (.bool b) [some (curO code i' h')]) : GOnce [.ptr 0 0 0, .int .i64 n] [curO code i h] Q := ⟨code, i, h, n, rfl, rfl, h1, h2, h3, hq⟩
theorem s_spec_l1Once : GenSound Try.prog 139 1 GOnce := by
  have hR : Rely Try.prog (ctxOf [(137, .gen 1 GBelow)]) := rely_cons b_spec_l1Below.has s_spec_l1Below (rely_nil mixed)
  refine gen_of_aw b_spec_l1Once ?_
  rintro xs objs Q - ⟨code, i, h, n, rfl, rfl, h1, h2, h3, hq⟩ -
  refine ⟨by simp, vc2_sound hR _ _ _ _ _ ?_⟩
  conv => whnf
  repeat' ((first | (refine And.intro (fun hb => ?_) (fun hb => ?_) <;> ((try simp only [SB, reduceCtorEq] at hb); try (exfalso; omega))) | refine G2 ?_ | rw [ints_at (by omega)] | rw [ints_at0 (by omega)] | rw [ints_at' (by omega) (by omega)] | refine G1 ?_ | refine ⟨GBelow_mk (by omega) (by omega) (by omega) (fun x i' h' hx0 hx1 hi' => ?_)⟩ | fail) <;> conv => whnf)
  all_goals
    refine ⟨.inl rfl, ?_⟩
    conv => whnf
    refine ⟨[some 0], .bool _, [some (curO code i' h')], ⟨rfl, And.intro (And.intro (.inl rfl) (And.intro (.inl rfl) (And.intro (.inl rfl) trivial))) trivial⟩, .inl rfl, rfl, hq _ i' h' hi'⟩
def GPickInt : GFun := fun xs objs Q => ∃ (code : List UInt8) (i : Nat) (h : Int) (l : List Int), xs = [.ptr 0 0 0, .ref 1 0 l.length] ∧ objs = [curO code i h, .arr 1 (ints l)] ∧ i ≤ code.length ∧ code.length ≤ 1048576 ∧ 0 < l.length ∧ l.length ≤ 1000 ∧
  ∀ (j : Nat) (i' : Nat) (h' : Int), j < l.length → i' ≤ code.length → Q (.int .i64 (l.getD j 0)) [some (curO code i' h'), some (.arr 1 (ints l))]
theorem GPickInt_mk {code : List UInt8} {i : Nat} {h : Int} {l : List Int} {Q : AV → List (Option AObj) → Prop} (h1 : i ≤ code.length) (h2 : code.length ≤ 1048576) (h3 : 0 < l.length) (h4 : l.length ≤ 1000)
    (hq : ∀ (j : Nat) (i' : Nat) (h' : Int), j < l.length → i' ≤ code.length → Q (.int .i64 (l.getD j 0)) [some (curO code i' h'), some (.arr 1 (ints l))]) : GPickInt [.ptr 0 0 0, .ref 1 0 l.length] [curO code i h, .arr 1 (ints l)] Q :=
  ⟨code, i, h, l, rfl, rfl, h1, h2, h3, h4, hq⟩
theorem ints_atJ {l : List Int} {x : Int} (h0 : 0 ≤ x) (h1 : x < l.length) : (ints l)[0 + x.toNat]? = some [.int .i64 (l.getD x.toNat 0)] := by
  rw [Nat.zero_add]
  have hx : x.toNat < l.length := by omega
  simp [ints, List.getElem?_eq_getElem hx, List.getD_eq_getElem?_getD]
theorem s_spec_l1PickInt : GenSound Try.prog 188 2 GPickInt := by
  have hR : Rely Try.prog (ctxOf [(137, .gen 1 GBelow)]) := rely_cons b_spec_l1Below.has s_spec_l1Below (rely_nil mixed)
  refine gen_of_aw b_spec_l1PickInt ?_
  rintro xs objs Q - ⟨code, i, h, l, rfl, rfl, h1, h2, h3, h4, hq⟩ -
  have hil : (ints l).length = l.length := length_ints l
  refine ⟨by simp, vc2_sound hR _ _ _ _ _ ?_⟩
  conv => whnf
  repeat' ((first | (refine And.intro (fun hb => ?_) (fun hb => ?_) <;> ((try simp only [SB, reduceCtorEq] at hb); try (exfalso; omega))) | refine G2 ?_ | rw [ints_at (by omega)] | rw [ints_at0 (by omega)] | rw [ints_at' (by omega) (by omega)] | refine G1 ?_ | rw [ints_atJ (by omega) (by omega)] | refine ⟨GBelow_mk (by omega) (by omega) (by omega) (fun x i' h' hx0 hx1 hi' => ?_)⟩ | fail) <;> conv => whnf)
  refine ⟨.inl rfl, ?_⟩
  conv => whnf
  refine ⟨[some 0, some 1], .int .i64 _, [some (curO code i' h'), some (.arr 1 (ints l))], ⟨rfl, And.intro (And.intro (.inl rfl) (And.intro (.inl rfl) (And.intro (.inl rfl) trivial))) (And.intro (And.intro rfl rfl) trivial)⟩, .inl rfl, rfl, hq _ i' h' (by omega) hi'⟩
def GLetters : GFun := fun xs objs Q => ∃ (code : List UInt8) (i : Nat) (h m n : Int), xs = [.ptr 0 0 0, .int .i64 m, .int .i64 n] ∧ objs = [curO code i h] ∧ i ≤ code.length ∧ code.length ≤ 1048576 ∧ 0 ≤ m ∧ m ≤ 1000 ∧ n ≤ 1073741824 ∧
  ∀ (l : List Int) (i' : Nat) (h' : Int), l.length ≤ m → i' ≤ code.length → Q (.ref 1 0 l.length) [some (curO code i' h'), some (.arr 1 (ints l))]
theorem GLetters_mk {code : List UInt8} {i : Nat} {h m n : Int} {Q : AV → List (Option AObj) → Prop} (h1 : i ≤ code.length) (h2 : code.length ≤ 1048576) (h3 : 0 ≤ m ∧ m ≤ 1000) (h4 : n ≤ 1073741824)
    (hq : ∀ (l : List Int) (i' : Nat) (h' : Int), l.length ≤ m → i' ≤ code.length → Q (.ref 1 0 l.length) [some (curO code i' h'), some (.arr 1 (ints l))]) : GLetters [.ptr 0 0 0, .int .i64 m, .int .i64 n] [curO code i h] Q :=
  ⟨code, i, h, m, n, rfl, rfl, h1, h2, h3.1, h3.2, h4, hq⟩
theorem s_spec_l3DrawLetters : GenSound Try.prog 136 1 GLetters := by
  have hR : Rely Try.prog (ctxOf [(137, .gen 1 GBelow)]) := rely_cons b_spec_l1Below.has s_spec_l1Below (rely_nil mixed)
  refine gen_of_aw b_spec_l3DrawLetters ?_
  rintro xs objs Q - ⟨code, i, h, m, n, rfl, rfl, h1, h2, h3, h3', h4, hq⟩ -
  refine ⟨by simp, vc2_sound hR _ _ _ _ _ ?_⟩
  conv => whnf
  repeat' ((first | (refine And.intro (fun hb => ?_) (fun hb => ?_) <;> ((try simp only [SB, reduceCtorEq] at hb); try (exfalso; omega))) | refine G2 ?_ | rw [ints_at (by omega)] | rw [ints_at0 (by omega)] | rw [ints_at' (by omega) (by omega)] | refine G1 ?_ | refine ⟨GBelow_mk (by omega) (by omega) (by omega) (fun x i' h' hx0 hx1 hi' => ?_)⟩ | fail) <;> conv => whnf)
  refine Lp.intro (α := List Int × Nat × Int) (fun a => (a.1.length : Int) ≤ x ∧ a.2.1 ≤ code.length) (fun a => x.toNat - a.1.length) (fun a => [(0, .ptr 0 0 0), (2, .int .i64 n), (7, .ref 1 0 a.1.length), (8, .int .i64 x), (9, .int .i64 a.1.length)])
    (fun a => [some (curO code a.2.1 a.2.2), some (.arr 1 (ints a.1))]) ?_ ?_
  · refine ⟨([], i', h'), ⟨hx0, hi'⟩, [some 0, none], rfl, rfl, ?_, ?_⟩
    · exact And.intro (And.intro (.inl rfl) (And.intro (.inl rfl) (And.intro (.inl rfl) trivial))) (And.intro rfl trivial)
    · repeat' (first
        | exact trivial
        | refine ⟨?_, ?_⟩
        | fail)
      all_goals first
        | with_reducible rfl
        | (conv => whnf
           try left
           conv => lhs; whnf
           first
             | rfl
             | exact congrArg (AV.int .i64) (by omega)
             | skip)
  · rintro ⟨l, i2, h2'⟩ ⟨hl, hi2⟩
    dsimp only at hl hi2 ⊢
    have hil := length_ints l
    refine vc2_sound hR _ _ _ _ _ ?_
    conv => whnf
    repeat' ((first | (refine And.intro (fun hb => ?_) (fun hb => ?_) <;> ((try simp only [SB, reduceCtorEq] at hb); try (exfalso; omega))) | refine G2 ?_ | rw [ints_at (by omega)] | rw [ints_at0 (by omega)] | rw [ints_at' (by omega) (by omega)] | refine G1 ?_ | refine ⟨GBelow_mk (by omega) (by omega) (by omega) (fun y i' h' hx0 hx1 hi' => ?_)⟩ | fail) <;> conv => whnf)
    · refine ⟨(l ++ [y], i', h'), ⟨by simp; omega, hi'⟩, by simp; omega, [some 0, some 2], rfl, rfl, ?_, ?_⟩
      · exact And.intro (And.intro (.inl rfl) (And.intro (.inl rfl) (And.intro (.inl rfl) trivial))) (And.intro (And.intro rfl (app_step l y l.length rfl)) trivial)
      · repeat' (first
          | exact trivial
          | refine ⟨?_, ?_⟩
          | fail)
        all_goals first
          | with_reducible rfl
          | (conv => whnf
             try left
             conv => lhs; whnf
             first
               | rfl
               | exact congrArg (AV.int .i64) (by omega)
               | skip)
        all_goals simp
    · refine ⟨.inl rfl, ?_⟩
      conv => whnf
      refine ⟨[some 0, some 1], .ref 1 0 l.length, [some (curO code i2 h2'), some (.arr 1 (ints l))], ⟨rfl, And.intro (And.intro (.inl rfl) (And.intro (.inl rfl) (And.intro (.inl rfl) trivial))) (And.intro (And.intro rfl rfl) trivial)⟩, rfl, rfl, hq l i2 h2' (by omega) hi2⟩
def c_spec_WordPower : ICode := (.seq (.reg [O1 2 (.box 2) 0, O0 4 (.alc [.snil, .snil]), Ol 5 .mv [cb false]]) (.seq (.seq (.reg [O1 8 (.ldn 2) 2, O1 9 (.call 206) 8, O1 10 .not 9, O1 11 .mv 10, Og 12 .mv [.t 1] 11 false, Og 13 (.call 114) [.t 12, ci 1, ci 40] 11 false, Og 14 .not [.t 13] 11 false, Ol 15 .pick [.t 11, cb true, .t 14]]) (.cond (.t 15) (.seq (.reg [O0 16 (.bld [.snil, .snil] []), S2 (.st 2) 4 16, Ol 5 .mv [cb false]]) .ret) .skip)) (.seq (.reg [O0 17 .bsle, O1 18 (.fadr 0) 2, O1 19 .ld1 18, O2 20 (.app 1 8) 17 19, O1 21 (.bld [.snil, .snil] [(0, 1)]) 20, O0 6 (.alc [.snil, .snil]), S2 (.st 2) 6 21]) (.seq (.seq (.reg [Ol 7 .mv [ci 0]]) (.block 0 (.loop (.seq (.seq (.reg [O1 22 .mv 7, O1 23 .mv 1, O2 24 (.bin .lss) 22 23]) (.cond (.t 24) .skip (.exit 0))) (.seq (.block 1 (.reg [O1 27 (.fadr 1) 6, O1 28 .ld1 27, O1 29 (.fadr 1) 2, O1 30 .ld1 29, O2 31 (.app 1 8) 28 30, O1 32 (.fadr 1) 6, S2 (.st 1) 32 31])) (.reg [O1 25 .mv 7, Ol 26 (.bin .add) [.t 25, ci 1], O1 7 .mv 26])))))) (.seq (.reg [O1 33 (.ldn 2) 6, O1 34 (.call 207) 33, O1 35 (.ext 0) 34, O1 36 (.ext 1) 34, S2 (.st 2) 4 35, O1 5 .mv 36]) .ret)))))
theorem b_spec_WordPower : Body Try.prog 194 37 c_spec_WordPower [(.cn 4 2), (.t 5)] := body_mk Try.func194 (by kernel_rfl) (by decide)
def c_spec_WordTurn : ICode := (.seq (.reg [O1 1 (.box 2) 0, O0 2 (.alc [.snil, .snil]), Ol 3 .mv [cb false]]) (.seq (.seq (.reg [O1 4 (.ldn 2) 1, O1 5 (.call 206) 4, O1 6 .not 5]) (.cond (.t 6) (.seq (.reg [O0 7 (.bld [.snil, .snil] []), S2 (.st 2) 2 7, Ol 3 .mv [cb false]]) .ret) .skip)) (.seq (.drw [O0 8 .bsle, O1 9 (.fadr 0) 1, O1 10 .ld1 9, O2 11 (.app 1 8) 8 10, O1 12 (.fadr 1) 1, O1 13 .ld1 12, Ol 14 (.iadr 1) [.t 13, ci 0], O1 15 .ld1 14, O1 16 (.bslv 1) 15, O2 17 (.app 1 8) 11 16, O0 18 .bsle, O1 19 (.fadr 1) 1, O1 20 .ld1 19, Ol 21 (.slc 1 true false) [.t 20, ci 1], O2 22 (.app 1 8) 18 21, O1 23 (.fadr 1) 1, O1 24 .ld1 23, Ol 25 (.iadr 1) [.t 24, ci 0], O1 26 .ld1 25, O1 27 (.bslv 1) 26, O2 28 (.app 1 8) 22 27, O2 29 (.bld [.snil, .snil] [(0, 1), (1, 1)]) 17 28, O1 30 (.call 207) 29, O1 31 (.ext 0) 30, O1 32 (.ext 1) 30, S2 (.st 2) 2 31, O1 3 .mv 32] (unB [0, 0, 2, 7, 0, 16, 48, 112, 240, 511, 0, 0, 2048, 6144, 16383, 0, 32768, 98304, 229376, 491520, 1048575, 2097151, 4194303, 8388607, 8388607, 33554431, 67108863] 0) false true) .ret)))
theorem b_spec_WordTurn : Body Try.prog 195 33 c_spec_WordTurn [(.cn 2 2), (.t 3)] := body_mk Try.func195 (by kernel_rfl) (by decide)
def powW (s l : List Int) : List Int × List Int × Bool := wordBack s (l ++ l) (wordOk s l 8)
def RWordPower (xs : List AV) (r : AV) (objs : List AObj) : Prop := ∃ s l, xs = [word s l, .int .i64 2] ∧ r = readR (powW s l) ∧ objs = readO (powW s l)
theorem RWordPower_eq {xs : List AV} {s l : List Int} (h : xs = [word s l, .int .i64 2]) : RWordPower xs (readR (powW s l)) (readO (powW s l)) := ⟨s, l, h, rfl, rfl⟩
def turnW (s l : List Int) : List Int × List Int × Bool := wordBack (s ++ [l.getD 0 0]) (l.drop 1 ++ [l.getD 0 0]) (wordOk s l 8)
def RWordTurn (xs : List AV) (r : AV) (objs : List AObj) : Prop := ∃ s l, xs = [word s l] ∧ r = readR (turnW s l) ∧ objs = readO (turnW s l)
theorem RWordTurn_eq {xs : List AV} {s l : List Int} (h : xs = [word s l]) : RWordTurn xs (readR (turnW s l)) (readO (turnW s l)) := ⟨s, l, h, rfl, rfl⟩
theorem GTold_nv (xs : List AV) (objs : List AObj) (Q : AV → List (Option AObj) → Prop) (h : GTold xs objs Q) : ∃ r out, Q r out := by
  obtain ⟨a, b, _, _, h1, h2⟩ := h
  cases hw : wordOk a b 8 with
  | true => exact ⟨_, _, h1 hw⟩
  | false => exact ⟨_, _, h2 hw⟩
theorem RRight_is {s l : List Int} {b : Bool} (h : wordOk s l 8 = b) : RRight [word s l] (.bool b) [] := by subst h; exact RRight_mk
theorem ints_one (l : List Int) : ∀ r ∈ ints l, r.length = 1 := by
  intro r hr
  simp only [ints, List.mem_map] at hr
  obtain ⟨x, _, rfl⟩ := hr
  rfl
theorem sub_one (l : List Int) (a b : Nat) : ∀ r ∈ sub (ints l) a b, r.length = 1 := fun r hr => ints_one l r (List.mem_of_mem_drop (List.mem_of_mem_take hr))
theorem ints_first {l : List Int} (h : 1 ≤ l.length) : (ints l)[(0 : Int).toNat]? = some [.int .i64 (l.getD 0 0)] := by
  have h0 : 0 < l.length := by omega
  simp [ints, List.getElem?_eq_getElem h0, List.getD_eq_getElem?_getD]
theorem GTold_eq {xs : List AV} {objs : List AObj} {a b : List Int} {Q : AV → List (Option AObj) → Prop} (hx : xs = [.agg [.ref 0 0 a.length, .ref 1 0 b.length]]) (ho : objs = [.arr 1 (ints a), .arr 1 (ints b)])
    (h1 : wordOk a b 8 = true → Q (.tup [.agg [.ref 0 0 a.length, .ref 1 0 b.length], .bool true]) [some (.arr 1 (ints a)), some (.arr 1 (ints b))])
    (h2 : wordOk a b 8 = false → Q (.tup [.agg [.snil, .snil], .bool false]) [some (.arr 1 (ints a)), some (.arr 1 (ints b))]) : GTold xs objs Q := by
  subst hx; subst ho; exact GTold_mk h1 h2
set_option maxHeartbeats 4000000 in
theorem s_spec_WordTurn : PureSound Try.prog 195 RWordTurn := by
  have hR : Rely Try.prog (ctxOf [(206, .pure RRight), (207, .gen 2 GTold)]) := rely_cons b_spec_l3Right.has s_spec_l3Right (rely_cons b_spec_l3Told.has s_spec_l3Told (rely_nil mixed))
  have hV : CtxNV (ctxOf [(206, .pure RRight), (207, .gen 2 GTold)]) := nv_pure (nv_gen GTold_nv nvNil)
  refine pure_of_aw b_spec_WordTurn ?_
  rintro xs r objs ⟨s, l, rfl, rfl, rfl⟩ -
  have hs := length_ints s
  have hl := length_ints l
  refine ⟨by simp, vc3_sound hR hV _ _ _ _ _ ?_⟩
  cases hw : wordOk s l 8 with
  | false =>
    conv => whnf
    repeat' ((first | (refine And.intro (fun hb => ?_) (fun hb => ?_) <;> ((try simp only [SB, reduceCtorEq] at hb); try (exfalso; omega))) | refine G2 ?_ | rw [ints_at (by omega)] | rw [ints_at0 (by omega)] | rw [ints_at' (by omega) (by omega)] | refine G1 ?_ | refine ⟨_, _, RRight_is hw, ?_⟩ | fail) <;> conv => whnf)
    have e : turnW s l = ([], [], false) := by simp [turnW, wordBack, hw]
    rw [e]
    refine ⟨.inl rfl, ?_⟩
    conv => whnf
    refine And.intro (Nat.le_of_ble_eq_true rfl) ?_
    conv => whnf
    refine ⟨[none, none], ⟨rfl, And.intro rfl (And.intro rfl trivial)⟩, And.intro (And.intro ⟨rfl, rfl, rfl⟩ (And.intro ⟨rfl, rfl, rfl⟩ trivial)) (And.intro (.inl rfl) trivial), rfl, by simp [readO, AObj.nov, ints_nov]⟩
  | true =>
    obtain ⟨w1, w2, w3, _, _⟩ := wordOk_parts hw
    conv => whnf
    repeat' ((first | (refine And.intro (fun hb => ?_) (fun hb => ?_) <;> ((try simp only [SB, reduceCtorEq] at hb); try (exfalso; omega))) | refine G2 ?_ | rw [ints_at (by omega)] | rw [ints_at0 (by omega)] | rw [ints_at' (by omega) (by omega)] | refine G1 ?_ | refine ⟨_, _, RRight_is hw, ?_⟩ | refine And.intro (ints_one _) ?_ | refine And.intro (sub_one _ _ _) ?_ | rw [ints_first (by omega)] | fail) <;> conv => whnf)
    have e1 : sub (ints l) (Int.toNat 1) (((ints l).length : Int) - 1).toNat = ints (l.drop 1) := by
      have : (((ints l).length : Int) - 1).toNat = l.length - 1 := by omega
      rw [this]
      show ((ints l).drop 1).take (l.length - 1) = _
      rw [List.take_of_length_le (by simp [ints])]
      simp [ints]
    have hd := length_ints (l.drop 1)
    have hd2 : (l.drop 1).length = l.length - 1 := by simp
    rw [e1]
    conv => whnf
    repeat' ((first | (refine And.intro (fun hb => ?_) (fun hb => ?_) <;> ((try simp only [SB, reduceCtorEq] at hb); try (exfalso; omega))) | refine G2 ?_ | rw [ints_at (by omega)] | rw [ints_at0 (by omega)] | rw [ints_at' (by omega) (by omega)] | refine G1 ?_ | rw [ints_first (by omega)] | fail) <;> conv => whnf)
    refine ⟨GTold_eq (a := s ++ [l.getD 0 0]) (b := l.drop 1 ++ [l.getD 0 0]) ?_ ?_ (fun hw2 => ?_) (fun hw2 => ?_)⟩
    · show [AV.agg [AV.ref 0 0 ((ints s).length + 1), AV.ref 1 0 ((ints (l.drop 1)).length + 1)]] = _
      rw [hs, hd]
      simp
    · show [AObj.arr 1 (List.take (ints s).length (ints s) ++ [[.int .i64 (l.getD 0 0)]]), AObj.arr 1 (List.take (ints (l.drop 1)).length (ints (l.drop 1)) ++ [[.int .i64 (l.getD 0 0)]])] = _
      rw [app_step s _ _ hs, app_step (l.drop 1) _ _ hd]
    · have e : turnW s l = (s ++ [l.getD 0 0], l.drop 1 ++ [l.getD 0 0], true) := by simp only [turnW, wordBack, hw, hw2, Bool.and_self, if_true]
      rw [e]
      conv => whnf
      repeat' ((first | (refine And.intro (fun hb => ?_) (fun hb => ?_) <;> ((try simp only [SB, reduceCtorEq] at hb); try (exfalso; omega))) | refine G2 ?_ | rw [ints_at (by omega)] | rw [ints_at0 (by omega)] | rw [ints_at' (by omega) (by omega)] | refine G1 ?_ | fail) <;> conv => whnf)
      refine ⟨.inl rfl, ?_⟩
      conv => whnf
      refine And.intro (Nat.le_of_ble_eq_true rfl) ?_
      conv => whnf
      refine ⟨[some 3, some 5], ⟨rfl, And.intro (And.intro rfl rfl) (And.intro (And.intro rfl rfl) trivial)⟩, And.intro (And.intro rfl (And.intro rfl trivial)) (And.intro (.inl rfl) trivial), rfl, by simp [readO, AObj.nov, ints_nov]⟩
    · have e : turnW s l = ([], [], false) := by simp only [turnW, wordBack, hw, hw2, Bool.and_false, Bool.false_eq_true, if_false]
      rw [e]
      conv => whnf
      repeat' ((first | (refine And.intro (fun hb => ?_) (fun hb => ?_) <;> ((try simp only [SB, reduceCtorEq] at hb); try (exfalso; omega))) | refine G2 ?_ | rw [ints_at (by omega)] | rw [ints_at0 (by omega)] | rw [ints_at' (by omega) (by omega)] | refine G1 ?_ | fail) <;> conv => whnf)
      refine ⟨.inl rfl, ?_⟩
      conv => whnf
      refine And.intro (Nat.le_of_ble_eq_true rfl) ?_
      conv => whnf
      refine ⟨[none, none], ⟨rfl, And.intro rfl (And.intro rfl trivial)⟩, And.intro (And.intro ⟨rfl, rfl, rfl⟩ (And.intro ⟨rfl, rfl, rfl⟩ trivial)) (And.intro (.inl rfl) trivial), rfl, by simp [readO, AObj.nov, ints_nov]⟩
def times (l : List Int) : Nat → List Int
  | 0 => []
  | i + 1 => times l i ++ l
theorem times_le (l : List Int) : ∀ i, (times l i).length = i * l.length
  | 0 => by simp [times]
  | i + 1 => by simp [times, times_le l i, Nat.add_mul]
set_option maxHeartbeats 4000000 in
theorem s_spec_WordPower : PureSound Try.prog 194 RWordPower := by
  have hR : Rely Try.prog (ctxOf [(206, .pure RRight), (114, .pure RIn), (207, .gen 2 GTold)]) := rely_cons b_spec_l3Right.has s_spec_l3Right (rely_cons b_spec_l1In.has s_spec_l1In (rely_cons b_spec_l3Told.has s_spec_l3Told (rely_nil mixed)))
  refine pure_of_aw b_spec_WordPower ?_
  rintro xs r objs ⟨s, l, rfl, rfl, rfl⟩ -
  have hs := length_ints s
  have hl := length_ints l
  refine ⟨by simp, vc2_sound hR _ _ _ _ _ ?_⟩
  cases hw : wordOk s l 8 with
  | false =>
    conv => whnf
    repeat' ((first | (refine And.intro (fun hb => ?_) (fun hb => ?_) <;> ((try simp only [SB, reduceCtorEq] at hb); try (exfalso; omega))) | refine G2 ?_ | rw [ints_at (by omega)] | rw [ints_at0 (by omega)] | rw [ints_at' (by omega) (by omega)] | refine G1 ?_ | refine ⟨_, _, RRight_is hw, ?_⟩ | fail) <;> conv => whnf)
    have e : powW s l = ([], [], false) := by simp [powW, wordBack, hw]
    rw [e]
    refine ⟨.inl rfl, ?_⟩
    conv => whnf
    refine And.intro (Nat.le_of_ble_eq_true rfl) ?_
    conv => whnf
    refine ⟨[none, none], ⟨rfl, And.intro rfl (And.intro rfl trivial)⟩, And.intro (And.intro ⟨rfl, rfl, rfl⟩ (And.intro ⟨rfl, rfl, rfl⟩ trivial)) (And.intro (.inl rfl) trivial), rfl, by simp [readO, AObj.nov, ints_nov]⟩
  | true =>
    obtain ⟨w1, w2, w3, _, _⟩ := wordOk_parts hw
    conv => whnf
    repeat' ((first | (refine And.intro (fun hb => ?_) (fun hb => ?_) <;> ((try simp only [SB, reduceCtorEq] at hb); try (exfalso; omega))) | refine G2 ?_ | rw [ints_at (by omega)] | rw [ints_at0 (by omega)] | rw [ints_at' (by omega) (by omega)] | refine G1 ?_ | refine ⟨_, _, RRight_is hw, ?_⟩ | refine ⟨_, _, RIn_mk, ?_⟩ | refine And.intro (ints_one _) ?_ | fail) <;> conv => whnf)
    refine Lp.intro (α := Nat) (fun i => i ≤ 2) (fun i => 2 - i) (fun i => [(1, .int .i64 2), (2, .ptr 0 0 0), (4, .ptr 1 0 0), (6, .ptr 3 0 0), (7, .int .i64 i)])
      (fun i => [some (.box [.val (ints s), .val (ints l)]), some (.box [.snil, .snil]), some (.arr 1 (ints s)), some (.box [.ref 2 0 (ints s).length, .ref 4 0 (times l i).length]), some (.arr 1 (ints (times l i)))]) ?_ ?_
    · refine ⟨0, by omega, [some 0, some 1, some 2, some 3, none], rfl, rfl, ?_, ?_⟩
      · exact And.intro (And.intro (.inl rfl) (And.intro (.inl rfl) trivial)) (And.intro (And.intro (.inl rfl) (And.intro (.inl rfl) trivial)) (And.intro (And.intro rfl rfl) (And.intro (And.intro rfl (And.intro ⟨rfl, rfl, rfl⟩ trivial)) (And.intro rfl trivial))))
      · repeat' (first
          | exact trivial
          | refine ⟨?_, ?_⟩
          | fail)
        all_goals first
          | with_reducible rfl
          | (conv => whnf
             try left
             conv => lhs; whnf
             first
               | rfl
               | exact congrArg (AV.int .i64) (by omega)
               | skip)
    · intro i hi
      have ht := length_ints (times l i)
      have htl := times_le l i
      have hb40 : (times l i).length ≤ 80 := by
        rw [htl]
        have : i * l.length ≤ 2 * 40 := Nat.mul_le_mul hi w3
        omega
      refine vc2_sound hR _ _ _ _ _ ?_
      conv => whnf
      repeat' ((first | (refine And.intro (fun hb => ?_) (fun hb => ?_) <;> ((try simp only [SB, reduceCtorEq] at hb); try (exfalso; omega))) | refine G2 ?_ | rw [ints_at (by omega)] | rw [ints_at0 (by omega)] | rw [ints_at' (by omega) (by omega)] | refine G1 ?_ | refine And.intro (ints_one _) ?_ | fail) <;> conv => whnf)
      · refine ⟨i + 1, by omega, by omega, [some 0, some 1, some 2, some 3, some 5], rfl, rfl, ?_, ?_⟩
        · refine And.intro (And.intro (.inl rfl) (And.intro (.inl rfl) trivial)) (And.intro (And.intro (.inl rfl) (And.intro (.inl rfl) trivial)) (And.intro (And.intro rfl rfl) (And.intro (And.intro rfl (And.intro ?_ trivial)) (And.intro (And.intro rfl ?_) trivial))))
          · show AV.ref 5 0 ((times l i).length + (ints l).length) = AV.ref 5 0 (times l i ++ l).length
            rw [hl]; simp
          · show List.take (times l i).length (ints (times l i)) ++ ints l = ints (times l i ++ l)
            rw [List.take_of_length_le (by omega)]
            simp [ints]
        · repeat' (first
            | exact trivial
            | refine ⟨?_, ?_⟩
            | fail)
          all_goals first
            | with_reducible rfl
            | (conv => whnf
               try left
               conv => lhs; whnf
               first
                 | rfl
                 | exact congrArg (AV.int .i64) (by omega)
                 | skip)
      · have hi2 : i = 2 := by omega
        subst hi2
        have ht2 : times l 2 = l ++ l := by simp [times]
        rw [ht2] at *
        refine ⟨GTold_eq (a := s) (b := l ++ l) ?_ ?_ (fun hw2 => ?_) (fun hw2 => ?_)⟩
        · show [AV.agg [AV.ref 0 0 (ints s).length, AV.ref 1 0 (l ++ l).length]] = _
          rw [hs]
        · rfl
        · have e : powW s l = (s, l ++ l, true) := by simp only [powW, wordBack, hw, hw2, Bool.and_self, if_true]
          rw [e]
          conv => whnf
          repeat' ((first | (refine And.intro (fun hb => ?_) (fun hb => ?_) <;> ((try simp only [SB, reduceCtorEq] at hb); try (exfalso; omega))) | refine G2 ?_ | rw [ints_at (by omega)] | rw [ints_at0 (by omega)] | rw [ints_at' (by omega) (by omega)] | refine G1 ?_ | fail) <;> conv => whnf)
          refine ⟨.inl rfl, ?_⟩
          conv => whnf
          refine And.intro (Nat.le_of_ble_eq_true rfl) ?_
          conv => whnf
          refine ⟨[some 2, some 4], ⟨rfl, And.intro (And.intro rfl rfl) (And.intro (And.intro rfl rfl) trivial)⟩, And.intro (And.intro rfl (And.intro rfl trivial)) (And.intro (.inl rfl) trivial), rfl, by simp [readO, AObj.nov, ints_nov]⟩
        · have e : powW s l = ([], [], false) := by simp only [powW, wordBack, hw, hw2, Bool.and_false, Bool.false_eq_true, if_false]
          rw [e]
          conv => whnf
          repeat' ((first | (refine And.intro (fun hb => ?_) (fun hb => ?_) <;> ((try simp only [SB, reduceCtorEq] at hb); try (exfalso; omega))) | refine G2 ?_ | rw [ints_at (by omega)] | rw [ints_at0 (by omega)] | rw [ints_at' (by omega) (by omega)] | refine G1 ?_ | fail) <;> conv => whnf)
          refine ⟨.inl rfl, ?_⟩
          conv => whnf
          refine And.intro (Nat.le_of_ble_eq_true rfl) ?_
          conv => whnf
          refine ⟨[none, none], ⟨rfl, And.intro rfl (And.intro rfl trivial)⟩, And.intro (And.intro ⟨rfl, rfl, rfl⟩ (And.intro ⟨rfl, rfl, rfl⟩ trivial)) (And.intro (.inl rfl) trivial), rfl, by simp [readO, AObj.nov, ints_nov]⟩
def c_spec_l3DrawRight : ICode := (.seq (.reg [O0 4 (.alc [.snil, .snil])]) (.seq (.reg [O1 6 .mv 0, O1 7 .mv 1, Ol 8 (.call 136) [.t 6, ci 4, .t 7], O1 9 .mv 0, O1 10 .mv 1, Ol 11 (.call 136) [.t 9, ci 3, .t 10], O1 12 .mv 0, O1 13 .mv 1, O2 14 (.call 137) 12 13, O1 15 (.bslv 1) 14, O2 16 (.app 1 8) 11 15, O2 17 (.bld [.snil, .snil] [(0, 1), (1, 1)]) 8 16, O0 5 (.alc [.snil, .snil]), S2 (.st 2) 5 17]) (.seq (.seq (.reg [O1 18 .mv 0, Ol 19 (.call 139) [.t 18, ci 6]]) (.cond (.t 19) (.reg [O1 21 (.ldn 2) 5, Ol 22 (.call 194) [.t 21, ci 2], O1 20 .mv 22, O1 23 (.ext 0) 20, O1 24 (.ext 1) 20, S2 (.st 2) 5 23]) .skip)) (.seq (.seq (.reg [O1 25 .mv 0, Ol 26 (.call 139) [.t 25, ci 6]]) (.cond (.t 26) (.reg [O1 28 (.ldn 2) 5, O1 29 (.call 195) 28, O1 27 .mv 29, O1 30 (.ext 0) 27, O1 31 (.ext 1) 27, S2 (.st 2) 5 30]) .skip)) (.seq (.reg [O1 32 (.ldn 2) 5, S2 (.st 2) 4 32]) .ret)))))
theorem b_spec_l3DrawRight : Body Try.prog 148 33 c_spec_l3DrawRight [(.cn 4 2)] := body_mk Try.func148 (by kernel_rfl) (by decide)
def c_spec_l3DrawWord : ICode := (.seq (.reg [O0 2 (.alc [.snil, .snil])]) (.seq (.reg [O1 4 .mv 0, O1 5 .mv 0, Ol 6 (.bsl 1) [ci 1, ci 2, ci 2, ci 3, ci 8], O2 7 (.call 188) 5 6, O2 8 (.call 148) 4 7, O0 3 (.alc [.snil, .snil]), S2 (.st 2) 3 8]) (.seq (.seq (.reg [O1 9 .mv 0, Ol 10 (.call 137) [.t 9, ci 25]]) (.block 0 (.seq (.reg [Ol 12 (.bin .eql) [.t 10, ci 0], O1 11 .mv 12]) (.cond (.t 11) (.reg [O1 13 (.fadr 1) 3, Sl (.st 1) [.t 13, .c .snil]]) (.seq (.reg [Ol 15 (.bin .eql) [.t 10, ci 1], O1 14 .mv 15]) (.cond (.t 14) (.drw [O1 16 (.fadr 0) 3, O1 17 .ld1 16, O1 18 .mv 0, Ol 19 (.bsl 1) [ci (-1), ci 7, ci 8], O2 20 (.call 188) 18 19, O1 21 (.bslv 1) 20, O2 22 (.app 1 8) 17 21, O1 23 (.fadr 0) 3, S2 (.st 1) 23 22] (unB [0, 1, 0, 0, 12, 28, 63, 127, 255] 0) false true) (.seq (.reg [Ol 25 (.bin .eql) [.t 10, ci 2], O1 24 .mv 25]) (.cond (.t 24) (.reg [O1 26 .mv 0, Ol 27 (.call 137) [.t 26, ci 2], Ol 28 (.bin .add) [ci 40, .t 27], O2 29 (.mks 1 8 [(.int .i64 0)]) 28 28, O1 30 (.fadr 0) 3, S2 (.st 1) 30 29]) (.seq (.reg [Ol 32 (.bin .eql) [.t 10, ci 3], O1 31 .mv 32]) (.cond (.t 31) (.reg [O1 33 .mv 0, Ol 34 (.call 137) [.t 33, ci 2], Ol 35 (.bin .add) [ci 40, .t 34], O2 36 (.mks 1 8 [(.int .i64 0)]) 35 35, O1 37 (.fadr 1) 3, S2 (.st 1) 37 36]) .skip)))))))))) (.seq (.reg [O1 38 (.ldn 2) 3, S2 (.st 2) 2 38]) .ret))))
theorem b_spec_l3DrawWord : Body Try.prog 147 39 c_spec_l3DrawWord [(.cn 2 2)] := body_mk Try.func147 (by kernel_rfl) (by decide)
theorem back_le (a b : List Int) (ok : Bool) : (wordBack a b ok).1.length ≤ 40 ∧ (wordBack a b ok).2.1.length ≤ 40 := by
  unfold wordBack
  split
  · rename_i h
    simp only [Bool.and_eq_true] at h
    obtain ⟨k1, _, k2, _⟩ := wordOk_parts h.2
    exact ⟨k1, k2⟩
  · simp
theorem powW_le (s l : List Int) : (powW s l).1.length ≤ 40 ∧ (powW s l).2.1.length ≤ 40 := back_le _ _ _
theorem turnW_le (s l : List Int) : (turnW s l).1.length ≤ 40 ∧ (turnW s l).2.1.length ≤ 40 := back_le _ _ _
def GDrawRight : GFun := fun xs objs Q => ∃ (code : List UInt8) (i : Nat) (h n : Int), xs = [.ptr 0 0 0, .int .i64 n] ∧ objs = [curO code i h] ∧ i ≤ code.length ∧ code.length ≤ 1048576 ∧ n ≤ 1000 ∧
  ∀ (s l : List Int) (i' : Nat) (h' : Int), s.length ≤ 100 → l.length ≤ 100 → i' ≤ code.length → Q (.agg [.ref 1 0 s.length, .ref 2 0 l.length]) [some (curO code i' h'), some (.arr 1 (ints s)), some (.arr 1 (ints l))]
theorem GDrawRight_mk {code : List UInt8} {i : Nat} {h n : Int} {Q : AV → List (Option AObj) → Prop} (h1 : i ≤ code.length) (h2 : code.length ≤ 1048576) (h3 : n ≤ 1000)
    (hq : ∀ (s l : List Int) (i' : Nat) (h' : Int), s.length ≤ 100 → l.length ≤ 100 → i' ≤ code.length → Q (.agg [.ref 1 0 s.length, .ref 2 0 l.length]) [some (curO code i' h'), some (.arr 1 (ints s)), some (.arr 1 (ints l))]) :
    GDrawRight [.ptr 0 0 0, .int .i64 n] [curO code i h] Q := ⟨code, i, h, n, rfl, rfl, h1, h2, h3, hq⟩
abbrev drawL (_ : List Int × List Int × Nat × Int) : List (Nat × AV) := [(0, .ptr 0 0 0), (4, .ptr 1 0 0), (5, .ptr 2 0 0)]
abbrev drawO (code : List UInt8) (a : List Int × List Int × Nat × Int) : List (Option AObj) :=
  [some (curO code a.2.2.1 a.2.2.2), some (.box [.snil, .snil]), some (.box [.ref 3 0 a.1.length, .ref 4 0 a.2.1.length]), some (.arr 1 (ints a.1)), some (.arr 1 (ints a.2.1))]
abbrev drawI (code : List UInt8) (a : List Int × List Int × Nat × Int) : Prop := a.1.length ≤ 100 ∧ a.2.1.length ≤ 100 ∧ a.2.2.1 ≤ code.length
set_option maxHeartbeats 4000000 in
theorem s_spec_l3DrawRight : GenSound Try.prog 148 1 GDrawRight := by
  have hR : Rely Try.prog (ctxOf [(136, .gen 1 GLetters), (137, .gen 1 GBelow), (139, .gen 1 GOnce), (194, .pure RWordPower), (195, .pure RWordTurn)]) :=
    rely_cons b_spec_l3DrawLetters.has s_spec_l3DrawLetters (rely_cons b_spec_l1Below.has s_spec_l1Below (rely_cons b_spec_l1Once.has s_spec_l1Once (rely_cons b_spec_WordPower.has s_spec_WordPower (rely_cons b_spec_WordTurn.has s_spec_WordTurn (rely_nil mixed)))))
  refine gen_of_aw b_spec_l3DrawRight ?_
  rintro xs objs Q - ⟨code, i, h, n, rfl, rfl, h1, h2, h3, hq⟩ -
  refine ⟨by simp, ?_⟩
  refine Aw.meet (α := Unit) (fun _ => True) (fun _ => [(0, .ptr 0 0 0), (1, .int .i64 n), (4, .ptr 1 0 0)]) (fun _ => [some (curO code i h), some (.box [.snil, .snil])]) ?_ ?_
  · refine vc2_sound hR _ _ _ _ _ ?_
    conv => whnf
    repeat' ((first | (refine And.intro (fun hb => ?_) (fun hb => ?_) <;> ((try simp only [SB, reduceCtorEq] at hb); try (exfalso; omega))) | refine G2 ?_ | rw [ints_at (by omega)] | rw [ints_at0 (by omega)] | rw [ints_at' (by omega) (by omega)] | refine G1 ?_ | fail) <;> conv => whnf)
    refine ⟨(), trivial, [some 0, some 1], rfl, rfl, ?_, ?_⟩
    · repeat' (first | exact trivial | exact rfl | exact Or.inl rfl | refine And.intro ?_ ?_)
    · repeat' (first
        | exact trivial
        | refine ⟨?_, ?_⟩
        | fail)
      all_goals first
        | with_reducible rfl
        | (conv => whnf
           try left
           conv => lhs; whnf
           first
             | rfl
             | exact congrArg (AV.int .i64) (by omega)
             | skip)
  rintro _ -
  refine Aw.meet (α := List Int × List Int × Nat × Int) (drawI code) drawL (drawO code) ?_ ?_
  · refine vc2_sound hR _ _ _ _ _ ?_
    conv => whnf
    repeat' ((first | (refine And.intro (fun hb => ?_) (fun hb => ?_) <;> ((try simp only [SB, reduceCtorEq] at hb); try (exfalso; omega))) | refine G2 ?_ | rw [ints_at (by omega)] | rw [ints_at0 (by omega)] | rw [ints_at' (by omega) (by omega)] | refine G1 ?_ | refine ⟨GLetters_mk (by omega) (by omega) (by omega) (by omega) (fun la i' h' hla hi' => ?_)⟩ | refine ⟨GBelow_mk (by omega) (by omega) (by omega) (fun x i' h' hx0 hx1 hi' => ?_)⟩ | fail) <;> conv => whnf)
    rename_i la1 _ _ _ _ _ _ _
    refine ⟨(la1, la ++ [x], i', h'), ⟨by dsimp only; omega, by simp; omega, hi'⟩, [some 0, some 1, some 5, some 2, some 4], rfl, rfl, ?_, ?_⟩
    · refine And.intro (And.intro (.inl rfl) (And.intro (.inl rfl) (And.intro (.inl rfl) trivial))) (And.intro (And.intro (.inl rfl) (And.intro (.inl rfl) trivial)) (And.intro (And.intro rfl (And.intro ?_ trivial)) (And.intro (And.intro rfl rfl) (And.intro (And.intro rfl (app_step la x la.length rfl)) trivial))))
      show AV.ref 4 0 (la.length + 1) = AV.ref 4 0 (la ++ [x]).length
      simp
    · repeat' (first
        | exact trivial
        | refine ⟨?_, ?_⟩
        | fail)
      all_goals first
        | with_reducible rfl
        | (conv => whnf
           try left
           conv => lhs; whnf
           first
             | rfl
             | exact congrArg (AV.int .i64) (by omega)
             | skip)
  rintro ⟨s, l, i1, h1'⟩ ⟨hs, hl, hi1⟩
  dsimp only at hs hl hi1
  refine Aw.meet (α := List Int × List Int × Nat × Int) (drawI code) drawL (drawO code) ?_ ?_
  · refine vc2_sound hR _ _ _ _ _ ?_
    conv => whnf
    repeat' ((first | (refine And.intro (fun hb => ?_) (fun hb => ?_) <;> ((try simp only [SB, reduceCtorEq] at hb); try (exfalso; omega))) | refine G2 ?_ | rw [ints_at (by omega)] | rw [ints_at0 (by omega)] | rw [ints_at' (by omega) (by omega)] | refine G1 ?_ | refine ⟨GOnce_mk (by omega) (by omega) (by omega) (fun b i' h' hi' => ?_)⟩ | fail) <;> conv => whnf)
    · have hbk := powW_le s l
      refine ⟨_, _, RWordPower_eq (s := s) (l := l) (by repeat' (first | exact rfl | refine args_cons ?_ ?_ | refine snap_agg ?_ | refine cells_cons ?_ ?_ | exact snap1_all rfl (by first | (simp only [length_ints]; done) | (simp only [length_nodeRows]; done) | simp [ints, marks]) | exact snap_all rfl (by first | (simp only [length_ints]; done) | (simp only [length_nodeRows]; done) | simp [ints, marks]) | exact snap1_all2 rfl (by first | (simp only [length_ints]; done) | (simp only [length_nodeRows]; done) | simp [ints, marks]) | fail)), ?_⟩
      conv => whnf
      repeat' ((first | (refine And.intro (fun hb => ?_) (fun hb => ?_) <;> ((try simp only [SB, reduceCtorEq] at hb); try (exfalso; omega))) | refine G2 ?_ | rw [ints_at (by omega)] | rw [ints_at0 (by omega)] | rw [ints_at' (by omega) (by omega)] | refine G1 ?_ | fail) <;> conv => whnf)
      all_goals
        refine ⟨((powW s l).1, (powW s l).2.1, i', h'), ⟨by dsimp only; omega, by dsimp only; omega, hi'⟩, [some 0, some 1, some 2, some 5, some 6], rfl, rfl, ?_, ?_⟩
        · exact And.intro (And.intro (.inl rfl) (And.intro (.inl rfl) (And.intro (.inl rfl) trivial))) (And.intro (And.intro (.inl rfl) (And.intro (.inl rfl) trivial)) (And.intro (And.intro rfl (And.intro rfl trivial)) (And.intro (And.intro rfl rfl) (And.intro (And.intro rfl rfl) trivial))))
        · repeat' (first
            | exact trivial
            | refine ⟨?_, ?_⟩
            | fail)
          all_goals first
            | with_reducible rfl
            | (conv => whnf
               try left
               conv => lhs; whnf
               first
                 | rfl
                 | exact congrArg (AV.int .i64) (by omega)
                 | skip)
    · refine ⟨(s, l, i', h'), ⟨hs, hl, hi'⟩, [some 0, some 1, some 2, some 3, some 4], rfl, rfl, ?_, ?_⟩
      · exact And.intro (And.intro (.inl rfl) (And.intro (.inl rfl) (And.intro (.inl rfl) trivial))) (And.intro (And.intro (.inl rfl) (And.intro (.inl rfl) trivial)) (And.intro (And.intro rfl (And.intro rfl trivial)) (And.intro (And.intro rfl rfl) (And.intro (And.intro rfl rfl) trivial))))
      · repeat' (first
          | exact trivial
          | refine ⟨?_, ?_⟩
          | fail)
        all_goals first
          | with_reducible rfl
          | (conv => whnf
             try left
             conv => lhs; whnf
             first
               | rfl
               | exact congrArg (AV.int .i64) (by omega)
               | skip)
  clear hs hl hi1 s l i1 h1'
  rintro ⟨s, l, i1, h1'⟩ ⟨hs, hl, hi1⟩
  dsimp only at hs hl hi1
  refine Aw.meet (α := List Int × List Int × Nat × Int) (drawI code) drawL (drawO code) ?_ ?_
  · refine vc2_sound hR _ _ _ _ _ ?_
    conv => whnf
    repeat' ((first | (refine And.intro (fun hb => ?_) (fun hb => ?_) <;> ((try simp only [SB, reduceCtorEq] at hb); try (exfalso; omega))) | refine G2 ?_ | rw [ints_at (by omega)] | rw [ints_at0 (by omega)] | rw [ints_at' (by omega) (by omega)] | refine G1 ?_ | refine ⟨GOnce_mk (by omega) (by omega) (by omega) (fun b i' h' hi' => ?_)⟩ | fail) <;> conv => whnf)
    · have hbk := turnW_le s l
      refine ⟨_, _, RWordTurn_eq (s := s) (l := l) (by repeat' (first | exact rfl | refine args_cons ?_ ?_ | refine snap_agg ?_ | refine cells_cons ?_ ?_ | exact snap1_all rfl (by first | (simp only [length_ints]; done) | (simp only [length_nodeRows]; done) | simp [ints, marks]) | exact snap_all rfl (by first | (simp only [length_ints]; done) | (simp only [length_nodeRows]; done) | simp [ints, marks]) | exact snap1_all2 rfl (by first | (simp only [length_ints]; done) | (simp only [length_nodeRows]; done) | simp [ints, marks]) | fail)), ?_⟩
      conv => whnf
      repeat' ((first | (refine And.intro (fun hb => ?_) (fun hb => ?_) <;> ((try simp only [SB, reduceCtorEq] at hb); try (exfalso; omega))) | refine G2 ?_ | rw [ints_at (by omega)] | rw [ints_at0 (by omega)] | rw [ints_at' (by omega) (by omega)] | refine G1 ?_ | fail) <;> conv => whnf)
      all_goals
        refine ⟨((turnW s l).1, (turnW s l).2.1, i', h'), ⟨by dsimp only; omega, by dsimp only; omega, hi'⟩, [some 0, some 1, some 2, some 5, some 6], rfl, rfl, ?_, ?_⟩
        · exact And.intro (And.intro (.inl rfl) (And.intro (.inl rfl) (And.intro (.inl rfl) trivial))) (And.intro (And.intro (.inl rfl) (And.intro (.inl rfl) trivial)) (And.intro (And.intro rfl (And.intro rfl trivial)) (And.intro (And.intro rfl rfl) (And.intro (And.intro rfl rfl) trivial))))
        · repeat' (first
            | exact trivial
            | refine ⟨?_, ?_⟩
            | fail)
          all_goals first
            | with_reducible rfl
            | (conv => whnf
               try left
               conv => lhs; whnf
               first
                 | rfl
                 | exact congrArg (AV.int .i64) (by omega)
                 | skip)
    · refine ⟨(s, l, i', h'), ⟨hs, hl, hi'⟩, [some 0, some 1, some 2, some 3, some 4], rfl, rfl, ?_, ?_⟩
      · exact And.intro (And.intro (.inl rfl) (And.intro (.inl rfl) (And.intro (.inl rfl) trivial))) (And.intro (And.intro (.inl rfl) (And.intro (.inl rfl) trivial)) (And.intro (And.intro rfl (And.intro rfl trivial)) (And.intro (And.intro rfl rfl) (And.intro (And.intro rfl rfl) trivial))))
      · repeat' (first
          | exact trivial
          | refine ⟨?_, ?_⟩
          | fail)
        all_goals first
          | with_reducible rfl
          | (conv => whnf
             try left
             conv => lhs; whnf
             first
               | rfl
               | exact congrArg (AV.int .i64) (by omega)
               | skip)
  clear hs hl hi1 s l i1 h1'
  rintro ⟨s, l, i1, h1'⟩ ⟨hs, hl, hi1⟩
  dsimp only at hs hl hi1
  refine vc2_sound hR _ _ _ _ _ ?_
  conv => whnf
  repeat' ((first | (refine And.intro (fun hb => ?_) (fun hb => ?_) <;> ((try simp only [SB, reduceCtorEq] at hb); try (exfalso; omega))) | refine G2 ?_ | rw [ints_at (by omega)] | rw [ints_at0 (by omega)] | rw [ints_at' (by omega) (by omega)] | refine G1 ?_ | fail) <;> conv => whnf)
  refine ⟨.inl rfl, ?_⟩
  conv => whnf
  refine And.intro (Nat.le_of_ble_eq_true rfl) ?_
  conv => whnf
  exact ⟨[some 0, some 3, some 4], .agg [.ref 1 0 s.length, .ref 2 0 l.length], [some (curO code i1 h1'), some (.arr 1 (ints s)), some (.arr 1 (ints l))],
    ⟨rfl, And.intro (And.intro (.inl rfl) (And.intro (.inl rfl) (And.intro (.inl rfl) trivial))) (And.intro (And.intro rfl rfl) (And.intro (And.intro rfl rfl) trivial))⟩, And.intro rfl (And.intro rfl trivial), rfl, hq s l i1 h1' hs hl hi1⟩
def GDrawWord : GFun := fun xs objs Q => ∃ (code : List UInt8) (i : Nat) (h : Int), xs = [.ptr 0 0 0] ∧ objs = [curO code i h] ∧ i ≤ code.length ∧ code.length ≤ 1048576 ∧
  ∀ (s l : List Int) (i' : Nat) (h' : Int), s.length ≤ 201 → l.length ≤ 201 → i' ≤ code.length → Q (.agg [.ref 1 0 s.length, .ref 2 0 l.length]) [some (curO code i' h'), some (.arr 1 (ints s)), some (.arr 1 (ints l))]
theorem GDrawWord_mk {code : List UInt8} {i : Nat} {h : Int} {Q : AV → List (Option AObj) → Prop} (h1 : i ≤ code.length) (h2 : code.length ≤ 1048576)
    (hq : ∀ (s l : List Int) (i' : Nat) (h' : Int), s.length ≤ 201 → l.length ≤ 201 → i' ≤ code.length → Q (.agg [.ref 1 0 s.length, .ref 2 0 l.length]) [some (curO code i' h'), some (.arr 1 (ints s)), some (.arr 1 (ints l))]) :
    GDrawWord [.ptr 0 0 0] [curO code i h] Q := ⟨code, i, h, rfl, rfl, h1, h2, hq⟩
theorem GPickInt_nv (xs : List AV) (objs : List AObj) (Q : AV → List (Option AObj) → Prop) (h : GPickInt xs objs Q) : ∃ r out, Q r out := by
  obtain ⟨code, i, h, l, _, _, _, _, h3, _, hq⟩ := h
  exact ⟨_, _, hq 0 0 0 h3 (Nat.zero_le _)⟩
theorem GDrawRight_nv (xs : List AV) (objs : List AObj) (Q : AV → List (Option AObj) → Prop) (h : GDrawRight xs objs Q) : ∃ r out, Q r out := by
  obtain ⟨code, i, h, n, _, _, _, _, _, hq⟩ := h
  exact ⟨_, _, hq [] [] 0 0 (by simp) (by simp) (Nat.zero_le _)⟩
theorem pick5 (j : Nat) : ([1, 2, 2, 3, 8] : List Int).getD j 0 ≤ 8 := by
  rcases j with _ | _ | _ | _ | _ | j <;> simp
abbrev drawL2 (_ : List Int × List Int × Nat × Int) : List (Nat × AV) := [(0, .ptr 0 0 0), (2, .ptr 1 0 0), (3, .ptr 2 0 0)]
abbrev drawI2 (code : List UInt8) (a : List Int × List Int × Nat × Int) : Prop := a.1.length ≤ 200 ∧ a.2.1.length ≤ 200 ∧ a.2.2.1 ≤ code.length
theorem zeros_ints (n : Nat) : List.replicate n [AV.int .i64 0] = ints (List.replicate n 0) := by simp [ints]
set_option maxHeartbeats 4000000 in
theorem s_spec_l3DrawWord : GenSound Try.prog 147 1 GDrawWord := by
  have hR : Rely Try.prog (ctxOf [(188, .gen 2 GPickInt), (137, .gen 1 GBelow), (148, .gen 1 GDrawRight)]) :=
    rely_cons b_spec_l1PickInt.has s_spec_l1PickInt (rely_cons b_spec_l1Below.has s_spec_l1Below (rely_cons b_spec_l3DrawRight.has s_spec_l3DrawRight (rely_nil mixed)))
  have hV : CtxNV (ctxOf [(188, .gen 2 GPickInt), (137, .gen 1 GBelow), (148, .gen 1 GDrawRight)]) := nv_gen GPickInt_nv (nv_gen GBelow_nv (nv_gen GDrawRight_nv nvNil))
  refine gen_of_aw b_spec_l3DrawWord ?_
  rintro xs objs Q - ⟨code, i, h, rfl, rfl, h1, h2, hq⟩ -
  refine ⟨by simp, ?_⟩
  refine Aw.meet (α := Unit) (fun _ => True) (fun _ => [(0, .ptr 0 0 0), (2, .ptr 1 0 0)]) (fun _ => [some (curO code i h), some (.box [.snil, .snil])]) ?_ ?_
  · refine vc2_sound hR _ _ _ _ _ ?_
    conv => whnf
    repeat' ((first | (refine And.intro (fun hb => ?_) (fun hb => ?_) <;> ((try simp only [SB, reduceCtorEq] at hb); try (exfalso; omega))) | refine G2 ?_ | rw [ints_at (by omega)] | rw [ints_at0 (by omega)] | rw [ints_at' (by omega) (by omega)] | refine G1 ?_ | fail) <;> conv => whnf)
    refine ⟨(), trivial, [some 0, some 1], rfl, rfl, ?_, ?_⟩
    · repeat' (first | exact trivial | exact rfl | exact Or.inl rfl | refine And.intro ?_ ?_)
    · repeat' (first
        | exact trivial
        | refine ⟨?_, ?_⟩
        | fail)
      all_goals first
        | with_reducible rfl
        | (conv => whnf
           try left
           conv => lhs; whnf
           first
             | rfl
             | exact congrArg (AV.int .i64) (by omega)
             | skip)
  rintro _ -
  refine Aw.meet (α := List Int × List Int × Nat × Int) (drawI2 code) drawL2 (drawO code) ?_ ?_
  · refine vc2_sound hR _ _ _ _ _ ?_
    have p5 := pick5
    conv => whnf
    repeat' ((first | (refine And.intro (fun hb => ?_) (fun hb => ?_) <;> ((try simp only [SB, reduceCtorEq] at hb); try (exfalso; omega))) | refine G2 ?_ | rw [ints_at (by omega)] | rw [ints_at0 (by omega)] | rw [ints_at' (by omega) (by omega)] | refine G1 ?_ | refine ⟨GPickInt_mk (l := [1, 2, 2, 3, 8]) (by omega) (by omega) (by simp) (by simp) (fun j i' h' hj hi' => ?_)⟩ | refine ⟨GDrawRight_mk (by omega) (by omega) (Int.le_trans (pick5 _) (by omega)) (fun s l i' h' hs hl hi' => ?_)⟩ | fail) <;> conv => whnf)
    refine ⟨(s, l, i', h'), ⟨by dsimp only; omega, by dsimp only; omega, hi'⟩, [some 0, some 1, some 5, some 3, some 4], rfl, rfl, ?_, ?_⟩
    · exact And.intro (And.intro (.inl rfl) (And.intro (.inl rfl) (And.intro (.inl rfl) trivial))) (And.intro (And.intro (.inl rfl) (And.intro (.inl rfl) trivial)) (And.intro (And.intro rfl (And.intro rfl trivial)) (And.intro (And.intro rfl rfl) (And.intro (And.intro rfl rfl) trivial))))
    · repeat' (first
        | exact trivial
        | refine ⟨?_, ?_⟩
        | fail)
      all_goals first
        | with_reducible rfl
        | (conv => whnf
           try left
           conv => lhs; whnf
           first
             | rfl
             | exact congrArg (AV.int .i64) (by omega)
             | skip)
  rintro ⟨s, l, i1, h1'⟩ ⟨hs, hl, hi1⟩
  dsimp only at hs hl hi1 ⊢
  refine Aw.meet (α := List Int × List Int × Nat × Int) (fun a => a.1.length ≤ 201 ∧ a.2.1.length ≤ 201 ∧ a.2.2.1 ≤ code.length) drawL2 (drawO code) ?_ ?_
  · refine vc3_sound hR hV _ _ _ _ _ ?_
    conv => whnf
    repeat' ((first | (refine And.intro (fun hb => ?_) (fun hb => ?_) <;> ((try simp only [SB, reduceCtorEq] at hb); try (exfalso; omega))) | refine G2 ?_ | rw [ints_at (by omega)] | rw [ints_at0 (by omega)] | rw [ints_at' (by omega) (by omega)] | refine G1 ?_ | refine And.intro (show (s.length + 1) * 8 ≤ 140737488355328 by omega) ?_ | refine And.intro (show s.length + 1 ≤ 140737488355328 by omega) ?_ | (refine And.intro (show s.length ≤ (ints s).length by rw [length_ints]; exact Nat.le_refl _) ?_) | refine ⟨GPickInt_mk (l := [-1, 7, 8]) (by omega) (by omega) (by simp) (by simp) (fun j i' h' hj hi' => ?_)⟩ | refine ⟨GBelow_mk (by omega) (by omega) (by omega) (fun x i' h' hx0 hx1 hi' => ?_)⟩ | fail) <;> conv => whnf)
    · refine ⟨(s, [], i', h'), ⟨by dsimp only; omega, by simp, hi'⟩, [some 0, some 1, some 2, some 3, none], rfl, rfl, ?_, ?_⟩
      · exact And.intro (And.intro (.inl rfl) (And.intro (.inl rfl) (And.intro (.inl rfl) trivial))) (And.intro (And.intro (.inl rfl) (And.intro (.inl rfl) trivial)) (And.intro (And.intro rfl (And.intro ⟨rfl, rfl, rfl⟩ trivial)) (And.intro (And.intro rfl rfl) (And.intro rfl trivial))))
      · repeat' (first
          | exact trivial
          | refine ⟨?_, ?_⟩
          | fail)
        all_goals first
          | with_reducible rfl
          | (conv => whnf
             try left
             conv => lhs; whnf
             first
               | rfl
               | exact congrArg (AV.int .i64) (by omega)
               | skip)
    · refine ⟨(s ++ [([-1, 7, 8] : List Int).getD j 0], l, i', h'), ⟨by simp; omega, by dsimp only; omega, hi'⟩, [some 0, some 1, some 2, some 6, some 4], rfl, rfl, ?_, ?_⟩
      · refine And.intro (And.intro (.inl rfl) (And.intro (.inl rfl) (And.intro (.inl rfl) trivial))) (And.intro (And.intro (.inl rfl) (And.intro (.inl rfl) trivial)) (And.intro (And.intro ?_ (And.intro rfl trivial)) (And.intro (And.intro rfl (app_step s _ s.length rfl)) (And.intro (And.intro rfl rfl) trivial))))
        show AV.ref 6 0 (s.length + 1) = AV.ref 6 0 (s ++ [([-1, 7, 8] : List Int).getD j 0]).length
        simp
      · repeat' (first
          | exact trivial
          | refine ⟨?_, ?_⟩
          | fail)
        all_goals first
          | with_reducible rfl
          | (conv => whnf
             try left
             conv => lhs; whnf
             first
               | rfl
               | exact congrArg (AV.int .i64) (by omega)
               | skip)
    · refine ⟨(List.replicate (40 + x).toNat 0, l, i', h'), ⟨by simp; omega, by dsimp only; omega, hi'⟩, [some 0, some 1, some 2, some 5, some 4], rfl, rfl, ?_, ?_⟩
      · refine And.intro (And.intro (.inl rfl) (And.intro (.inl rfl) (And.intro (.inl rfl) trivial))) (And.intro (And.intro (.inl rfl) (And.intro (.inl rfl) trivial)) (And.intro (And.intro ?_ (And.intro rfl trivial)) (And.intro (And.intro rfl (zeros_ints _)) (And.intro (And.intro rfl rfl) trivial))))
        show AV.ref 5 0 (40 + x).toNat = AV.ref 5 0 (List.replicate (40 + x).toNat (0 : Int)).length
        simp
      · repeat' (first
          | exact trivial
          | refine ⟨?_, ?_⟩
          | fail)
        all_goals first
          | with_reducible rfl
          | (conv => whnf
             try left
             conv => lhs; whnf
             first
               | rfl
               | exact congrArg (AV.int .i64) (by omega)
               | skip)
    · refine ⟨(s, List.replicate (40 + x).toNat 0, i', h'), ⟨by dsimp only; omega, by simp; omega, hi'⟩, [some 0, some 1, some 2, some 3, some 5], rfl, rfl, ?_, ?_⟩
      · refine And.intro (And.intro (.inl rfl) (And.intro (.inl rfl) (And.intro (.inl rfl) trivial))) (And.intro (And.intro (.inl rfl) (And.intro (.inl rfl) trivial)) (And.intro (And.intro rfl (And.intro ?_ trivial)) (And.intro (And.intro rfl rfl) (And.intro (And.intro rfl (zeros_ints _)) trivial))))
        show AV.ref 5 0 (40 + x).toNat = AV.ref 5 0 (List.replicate (40 + x).toNat (0 : Int)).length
        simp
      · repeat' (first
          | exact trivial
          | refine ⟨?_, ?_⟩
          | fail)
        all_goals first
          | with_reducible rfl
          | (conv => whnf
             try left
             conv => lhs; whnf
             first
               | rfl
               | exact congrArg (AV.int .i64) (by omega)
               | skip)
    · refine ⟨(s, l, i', h'), ⟨by dsimp only; omega, by dsimp only; omega, hi'⟩, [some 0, some 1, some 2, some 3, some 4], rfl, rfl, ?_, ?_⟩
      · exact And.intro (And.intro (.inl rfl) (And.intro (.inl rfl) (And.intro (.inl rfl) trivial))) (And.intro (And.intro (.inl rfl) (And.intro (.inl rfl) trivial)) (And.intro (And.intro rfl (And.intro rfl trivial)) (And.intro (And.intro rfl rfl) (And.intro (And.intro rfl rfl) trivial))))
      · repeat' (first
          | exact trivial
          | refine ⟨?_, ?_⟩
          | fail)
        all_goals first
          | with_reducible rfl
          | (conv => whnf
             try left
             conv => lhs; whnf
             first
               | rfl
               | exact congrArg (AV.int .i64) (by omega)
               | skip)
  clear hs hl hi1 s l i1 h1'
  rintro ⟨s, l, i1, h1'⟩ ⟨hs, hl, hi1⟩
  dsimp only at hs hl hi1 ⊢
  refine vc2_sound hR _ _ _ _ _ ?_
  conv => whnf
  repeat' ((first | (refine And.intro (fun hb => ?_) (fun hb => ?_) <;> ((try simp only [SB, reduceCtorEq] at hb); try (exfalso; omega))) | refine G2 ?_ | rw [ints_at (by omega)] | rw [ints_at0 (by omega)] | rw [ints_at' (by omega) (by omega)] | refine G1 ?_ | fail) <;> conv => whnf)
  refine ⟨.inl rfl, ?_⟩
  conv => whnf
  refine And.intro (Nat.le_of_ble_eq_true rfl) ?_
  conv => whnf
  exact ⟨[some 0, some 3, some 4], .agg [.ref 1 0 s.length, .ref 2 0 l.length], [some (curO code i1 h1'), some (.arr 1 (ints s)), some (.arr 1 (ints l))],
    ⟨rfl, And.intro (And.intro (.inl rfl) (And.intro (.inl rfl) (And.intro (.inl rfl) trivial))) (And.intro (And.intro rfl rfl) (And.intro (And.intro rfl rfl) trivial))⟩, And.intro rfl (And.intro rfl trivial), rfl, hq s l i1 h1' (by omega) (by omega) hi1⟩

structure EdgeD where
  src : Int
  letter : Int
  dst : Int
  mark : Bool
  deriving Inhabited, DecidableEq
structure AutoD where
  letters : Int
  states : Int
  start : Int
  edges : List EdgeD
  deriving Inhabited, DecidableEq
structure NamedD where
  name : Int
  auto : AutoD
  deriving Inhabited, DecidableEq
def edgeRow (x : EdgeD) : List AV := [.int .i64 x.src, .int .i64 x.letter, .int .i64 x.dst, .bool x.mark]
def edgeRows (l : List EdgeD) : List (List AV) := l.map edgeRow
def autoRow (a : AutoD) : List AV := [.int .i64 a.letters, .int .i64 a.states, .int .i64 a.start, .val (edgeRows a.edges)]
def namedRow (x : NamedD) : List AV := [.int .i64 x.name, .int .i64 x.auto.letters, .int .i64 x.auto.states, .int .i64 x.auto.start, .val (edgeRows x.auto.edges)]
def namedRows (l : List NamedD) : List (List AV) := l.map namedRow
@[simp] theorem length_edgeRows (l : List EdgeD) : (edgeRows l).length = l.length := by simp [edgeRows]
theorem edgeRows_nov (l : List EdgeD) : (edgeRows l).all AV.novs = true := by
  simp [edgeRows, edgeRow, AV.novs, AV.nov]
@[simp] theorem length_namedRows (l : List NamedD) : (namedRows l).length = l.length := by simp [namedRows]

def edgeLess (x y : EdgeD) : Bool := if x.src ≠ y.src then decide (x.src < y.src) else if x.letter ≠ y.letter then decide (x.letter < y.letter) else decide (x.dst < y.dst)
def HeadOk (l s t : Int) : Prop := (1 ≤ l ∧ l ≤ 8) ∧ (0 ≤ s ∧ s ≤ 31) ∧ (0 ≤ t ∧ t ≤ 2147483647 ∧ t < 2 ^ s.toNat)
instance (l s t : Int) : Decidable (HeadOk l s t) := by unfold HeadOk; infer_instance
def EdgeIn (a : AutoD) (e : EdgeD) : Prop := (0 ≤ e.src ∧ e.src ≤ a.states - 1) ∧ (0 ≤ e.dst ∧ e.dst ≤ a.states - 1) ∧ (0 ≤ e.letter ∧ e.letter ≤ a.letters - 1)
instance (a : AutoD) (e : EdgeD) : Decidable (EdgeIn a e) := by unfold EdgeIn; infer_instance
def EdgeAt (a : AutoD) (i : Nat) : Prop := EdgeIn a (a.edges.getD i default) ∧ (0 < i → edgeLess (a.edges.getD (i - 1) default) (a.edges.getD i default) = true)
instance (a : AutoD) (i : Nat) : Decidable (EdgeAt a i) := by unfold EdgeAt; infer_instance
def AutoOk (a : AutoD) : Prop := HeadOk a.letters a.states a.start ∧ a.edges.length ≤ 2000 ∧ ∀ i, i < a.edges.length → EdgeAt a i
instance (a : AutoD) : Decidable (AutoOk a) := by unfold AutoOk; infer_instance
def NamedAt (l : List NamedD) (i : Nat) : Prop := (97 ≤ (l.getD i default).name ∧ (l.getD i default).name ≤ 122) ∧ AutoOk (l.getD i default).auto ∧ (0 < i → (l.getD (i - 1) default).name < (l.getD i default).name)
instance (l : List NamedD) (i : Nat) : Decidable (NamedAt l i) := by unfold NamedAt; infer_instance
def ShelfOk (l : List NamedD) : Prop := l.length ≤ 8 ∧ ∀ i, i < l.length → NamedAt l i
instance (l : List NamedD) : Decidable (ShelfOk l) := by unfold ShelfOk; infer_instance
def c_spec_l4Less : ICode := (.seq (.reg [O1 2 (.box 4) 0, O1 3 (.box 4) 1, Ol 4 .mv [cb false]]) (.seq (.seq (.reg [O1 5 (.fadr 0) 2, O1 6 .ld1 5, O1 7 (.fadr 0) 3, O1 8 .ld1 7, O2 9 (.bin .neq) 6 8]) (.cond (.t 9) (.seq (.reg [O1 10 (.fadr 0) 2, O1 11 .ld1 10, O1 12 (.fadr 0) 3, O1 13 .ld1 12, O2 14 (.bin .lss) 11 13, O1 4 .mv 14]) .ret) .skip)) (.seq (.seq (.reg [O1 15 (.fadr 1) 2, O1 16 .ld1 15, O1 17 (.fadr 1) 3, O1 18 .ld1 17, O2 19 (.bin .neq) 16 18]) (.cond (.t 19) (.seq (.reg [O1 20 (.fadr 1) 2, O1 21 .ld1 20, O1 22 (.fadr 1) 3, O1 23 .ld1 22, O2 24 (.bin .lss) 21 23, O1 4 .mv 24]) .ret) .skip)) (.seq (.reg [O1 25 (.fadr 2) 2, O1 26 .ld1 25, O1 27 (.fadr 2) 3, O1 28 .ld1 27, O2 29 (.bin .lss) 26 28, O1 4 .mv 29]) .ret))))
theorem b_spec_l4Less : Body Try.prog 117 30 c_spec_l4Less [(.t 4)] := body_mk Try.func117 (by kernel_rfl) (by decide)
def c_spec_l4State : ICode := (.seq (.reg [Ol 4 .mv [cb false]]) (.seq (.reg [O1 5 .mv 0, O1 6 .mv 1, Ol 7 (.bin .sub) [.t 6, ci 1], Ol 8 (.call 114) [.t 5, ci 0, .t 7], O1 4 .mv 8]) .ret))
theorem b_spec_l4State : Body Try.prog 116 9 c_spec_l4State [(.t 4)] := body_mk Try.func116 (by kernel_rfl) (by decide)
def c_spec_SetOk : ICode := (.seq (.reg [Ol 2 .mv [cb false]]) (.seq (.reg [O1 3 .mv 0, Ol 4 (.call 114) [.t 3, ci 0, ci 2147483647], O1 2 .mv 4]) .ret))
theorem b_spec_SetOk : Body Try.prog 180 5 c_spec_SetOk [(.t 2)] := body_mk Try.func180 (by kernel_rfl) (by decide)
def c_spec_SetIn : ICode := (.seq (.reg [Ol 4 .mv [cb false]]) (.seq (.reg [O1 5 .mv 0, O1 6 (.call 180) 5, O1 7 .mv 6, Og 8 .mv [.t 1] 7 true, Og 9 (.call 180) [.t 8] 7 true, Ol 10 .pick [.t 7, .t 9, cb false], O1 11 .mv 10, Og 12 .mv [.t 0] 11 true, Og 13 .mv [.t 1] 11 true, Og 14 (.bin .and) [.t 12, .t 13] 11 true, Og 15 .mv [.t 0] 11 true, Og 16 (.bin .eql) [.t 14, .t 15] 11 true, Ol 17 .pick [.t 11, .t 16, cb false], O1 4 .mv 17]) .ret))
theorem b_spec_SetIn : Body Try.prog 115 18 c_spec_SetIn [(.t 4)] := body_mk Try.func115 (by kernel_rfl) (by decide)
def c_spec_AutoOk : ICode := (.seq (.reg [O1 1 (.box 4) 0, Ol 2 .mv [cb false]]) (.seq (.seq (.drw [O1 5 (.fadr 0) 1, O1 6 .ld1 5, Ol 7 (.call 114) [.t 6, ci 1, ci 8], O1 8 .not 7, O1 9 .mv 8, Og 10 (.fadr 1) [.t 1] 9 false, Og 11 .ld1 [.t 10] 9 false, Og 12 (.call 114) [.t 11, ci 0, ci 31] 9 false, Og 13 .not [.t 12] 9 false, Ol 14 .pick [.t 9, cb true, .t 13], O1 15 .mv 14, Og 16 (.fadr 2) [.t 1] 15 false, Og 17 .ld1 [.t 16] 15 false, Og 18 (.fadr 1) [.t 1] 15 false, Og 19 .ld1 [.t 18] 15 false, Og 20 (.bin .shl) [ci 1, .t 19] 15 false, Og 21 (.bin .sub) [.t 20, ci 1] 15 false, Og 22 (.call 115) [.t 17, .t 21] 15 false, Og 23 .not [.t 22] 15 false, Ol 24 .pick [.t 15, cb true, .t 23], O1 25 .mv 24, Og 26 (.fadr 3) [.t 1] 25 false, Og 27 .ld1 [.t 26] 25 false, Og 28 .len [.t 27] 25 false, Og 29 (.bin .gtr) [.t 28, ci 2000] 25 false, Ol 30 .pick [.t 25, cb true, .t 29]] (unB [0, 1, 3, 7, 15, 31, 63, 127, 255, 511, 1023, 2047, 4095, 2047, 10239, 26623, 59391, 131071, 262143, 524287, 1048575, 2097151, 4194303, 8388607, 16777215, 33554431] 0) true true) (.cond (.t 30) (.seq (.reg [Ol 2 .mv [cb false]]) .ret) .skip)) (.seq (.seq (.reg [Ol 3 .mv [ci 0]]) (.block 0 (.loop (.seq (.seq (.reg [O1 31 .mv 3, O1 32 (.fadr 3) 1, O1 33 .ld1 32, O1 34 .len 33, O2 35 (.bin .lss) 31 34]) (.cond (.t 35) .skip (.exit 0))) (.seq (.block 1 (.seq (.reg [O1 38 (.fadr 3) 1, O1 39 .ld1 38, O1 40 .mv 3, O2 41 (.iadr 4) 39 40, O1 42 (.ldn 4) 41, O0 4 (.alc [(.int .i64 0), (.int .i64 0), (.int .i64 0), (.bool false)]), S2 (.st 4) 4 42]) (.seq (.drw [O1 43 (.fadr 0) 4, O1 44 .ld1 43, O1 45 (.fadr 1) 1, O1 46 .ld1 45, O2 47 (.call 116) 44 46, O1 48 .not 47, O1 49 .mv 48, Og 50 (.fadr 2) [.t 4] 49 false, Og 51 .ld1 [.t 50] 49 false, Og 52 (.fadr 1) [.t 1] 49 false, Og 53 .ld1 [.t 52] 49 false, Og 54 (.call 116) [.t 51, .t 53] 49 false, Og 55 .not [.t 54] 49 false, Ol 56 .pick [.t 49, cb true, .t 55], O1 57 .mv 56, Og 58 (.fadr 1) [.t 4] 57 false, Og 59 .ld1 [.t 58] 57 false, Og 60 (.fadr 0) [.t 1] 57 false, Og 61 .ld1 [.t 60] 57 false, Og 62 (.bin .sub) [.t 61, ci 1] 57 false, Og 63 (.call 114) [.t 59, ci 0, .t 62] 57 false, Og 64 .not [.t 63] 57 false, Ol 65 .pick [.t 57, cb true, .t 64], O1 66 .mv 65, Og 67 .mv [.t 3] 66 false, Og 68 (.bin .gtr) [.t 67, ci 0] 66 false, Og 69 .mv [.t 68] 66 false, Og 70 (.fadr 3) [.t 1] 69 true, Og 71 .ld1 [.t 70] 69 true, Og 72 .mv [.t 3] 69 true, Og 73 (.bin .sub) [.t 72, ci 1] 69 true, Og 74 (.iadr 4) [.t 71, .t 73] 69 true, Og 75 (.ldn 4) [.t 74] 69 true, Og 76 (.ldn 4) [.t 4] 69 true, Og 77 (.call 117) [.t 75, .t 76] 69 true, Og 78 .not [.t 77] 69 true, Og 79 .pick [.t 69, .t 78, cb false] 66 false, Ol 80 .pick [.t 66, cb true, .t 79]] (unB [0, 1, 0, 4, 15, 31, 63, 127, 255, 127, 639, 2047, 4095, 8191, 16383, 32767, 65535, 32767, 163839, 425983, 1048575, 2097151, 4194303, 8388607, 16777215, 33554431, 67108863, 134217727, 268435455, 134217727, 671088639, 2147483647, 4294967295, 134217727, 17179869183, 34359738367, 68719476735, 137438953471] 0) true true) (.cond (.t 80) (.seq (.reg [Ol 2 .mv [cb false]]) .ret) .skip)))) (.reg [O1 36 .mv 3, Ol 37 (.bin .add) [.t 36, ci 1], O1 3 .mv 37])))))) (.seq (.reg [Ol 2 .mv [cb true]]) .ret))))
theorem b_spec_AutoOk : Body Try.prog 38 81 c_spec_AutoOk [(.t 2)] := body_mk Try.func38 (by kernel_rfl) (by decide)
def RLess (xs : List AV) (r : AV) (objs : List AObj) : Prop := ∃ x y, xs = [.agg (edgeRow x), .agg (edgeRow y)] ∧ r = .bool (edgeLess x y) ∧ objs = []
theorem RLess_mk {x y : EdgeD} : RLess [.agg (edgeRow x), .agg (edgeRow y)] (.bool (edgeLess x y)) [] := ⟨x, y, rfl, rfl, rfl⟩
theorem s_spec_l4Less : PureSound Try.prog 117 RLess := by
  have hR : Rely Try.prog (ctxOf []) := rely_nil mixed
  refine pure_of_aw b_spec_l4Less ?_
  rintro xs r objs ⟨x, y, rfl, rfl, rfl⟩ -
  refine ⟨by simp, vc2_sound hR _ _ _ _ _ ?_⟩
  conv => whnf
  repeat' ((first | contradiction | (refine And.intro (fun hb => ?_) (fun hb => ?_) <;> first | contradiction | ((try simp only [SB, reduceCtorEq] at hb); try (exfalso; first | contradiction | omega))) | refine G2 ?_ | rw [ints_at (by omega)] | rw [ints_at0 (by omega)] | rw [ints_at' (by omega) (by omega)] | refine G1 ?_ | fail) <;> conv => whnf)
  all_goals
    refine ⟨.inl rfl, ?_⟩
    conv => whnf
    refine ⟨[], ⟨rfl, trivial⟩, ?_, rfl, rfl⟩
    conv => whnf
    left
    conv => lhs; whnf
    refine congrArg AV.bool ?_
    simp_all [edgeLess]
def RState (xs : List AV) (r : AV) (objs : List AObj) : Prop := ∃ x s, xs = [.int .i64 x, .int .i64 s] ∧ 0 ≤ s ∧ s ≤ 31 ∧ r = .bool (decide (0 ≤ x ∧ x ≤ s - 1)) ∧ objs = []
theorem RState_mk {x s : Int} (h1 : 0 ≤ s) (h2 : s ≤ 31) : RState [.int .i64 x, .int .i64 s] (.bool (decide (0 ≤ x ∧ x ≤ s - 1))) [] := ⟨x, s, rfl, h1, h2, rfl, rfl⟩
theorem s_spec_l4State : PureSound Try.prog 116 RState := by
  have hR : Rely Try.prog (ctxOf [(114, .pure RIn)]) := rely_cons b_spec_l1In.has s_spec_l1In (rely_nil mixed)
  refine pure_of_aw b_spec_l4State ?_
  rintro xs r objs ⟨x, s, rfl, h1, h2, rfl, rfl⟩ -
  refine ⟨by simp, vc2_sound hR _ _ _ _ _ ?_⟩
  conv => whnf
  repeat' ((first | contradiction | (refine And.intro (fun hb => ?_) (fun hb => ?_) <;> first | contradiction | ((try simp only [SB, reduceCtorEq] at hb); try (exfalso; first | contradiction | omega))) | refine G2 ?_ | rw [ints_at (by omega)] | rw [ints_at0 (by omega)] | rw [ints_at' (by omega) (by omega)] | refine G1 ?_ | refine ⟨_, _, RIn_mk, ?_⟩ | fail) <;> conv => whnf)
  all_goals
    refine ⟨.inl rfl, ?_⟩
    conv => whnf
    refine ⟨[], ⟨rfl, trivial⟩, ?_, rfl, rfl⟩
    conv => whnf
    left
    conv => lhs; whnf
    try exact congrArg AV.bool (by simp_all)
def RSetOk (xs : List AV) (r : AV) (objs : List AObj) : Prop := ∃ s, xs = [.int .i64 s] ∧ r = .bool (decide (0 ≤ s ∧ s ≤ 2147483647)) ∧ objs = []
theorem RSetOk_mk {s : Int} : RSetOk [.int .i64 s] (.bool (decide (0 ≤ s ∧ s ≤ 2147483647))) [] := ⟨s, rfl, rfl, rfl⟩
theorem s_spec_SetOk : PureSound Try.prog 180 RSetOk := by
  have hR : Rely Try.prog (ctxOf [(114, .pure RIn)]) := rely_cons b_spec_l1In.has s_spec_l1In (rely_nil mixed)
  refine pure_of_aw b_spec_SetOk ?_
  rintro xs r objs ⟨s, rfl, rfl, rfl⟩ -
  refine ⟨by simp, vc2_sound hR _ _ _ _ _ ?_⟩
  conv => whnf
  repeat' ((first | contradiction | (refine And.intro (fun hb => ?_) (fun hb => ?_) <;> first | contradiction | ((try simp only [SB, reduceCtorEq] at hb); try (exfalso; first | contradiction | omega))) | refine G2 ?_ | rw [ints_at (by omega)] | rw [ints_at0 (by omega)] | rw [ints_at' (by omega) (by omega)] | refine G1 ?_ | refine ⟨_, _, RIn_mk, ?_⟩ | fail) <;> conv => whnf)
  all_goals
    refine ⟨.inl rfl, ?_⟩
    conv => whnf
    refine ⟨[], ⟨rfl, trivial⟩, ?_, rfl, rfl⟩
    conv => whnf
    left
    conv => lhs; whnf
    try exact congrArg AV.bool (by simp_all)
def RSetIn (xs : List AV) (r : AV) (objs : List AObj) : Prop := ∃ t s, xs = [.int .i64 t, .int .i64 (2 ^ Int.toNat s - 1)] ∧ 0 ≤ s ∧ s ≤ 31 ∧ r = .bool (decide (0 ≤ t ∧ t ≤ 2147483647 ∧ t < 2 ^ s.toNat)) ∧ objs = []
theorem RSetIn_mk {t s : Int} (h1 : 0 ≤ s) (h2 : s ≤ 31) : RSetIn [.int .i64 t, .int .i64 (2 ^ s.toNat - 1)] (.bool (decide (0 ≤ t ∧ t ≤ 2147483647 ∧ t < 2 ^ s.toNat))) [] := ⟨t, s, rfl, h1, h2, rfl, rfl⟩
theorem setIn_val {t s : Int} (h0 : 0 ≤ t) (h1 : t ≤ 2147483647) (hs : 0 ≤ s) (hs' : s ≤ 31) :
    (IntKind.i64.wrap (BitVec.ofInt IntKind.i64.bits t &&& BitVec.ofInt IntKind.i64.bits (2 ^ s.toNat - 1)).toNat = t) ↔ t < 2 ^ s.toNat := by
  rw [and_mask h0 h1 hs hs', mask_same h0]
theorem s_spec_SetIn : PureSound Try.prog 115 RSetIn := by
  have hR : Rely Try.prog (ctxOf [(180, .pure RSetOk)]) := rely_cons b_spec_SetOk.has s_spec_SetOk (rely_nil mixed)
  refine pure_of_aw b_spec_SetIn ?_
  rintro xs r objs ⟨t, s, rfl, h1, h2, rfl, rfl⟩ -
  have p1 := two_pow_31 (n := s.toNat) (by omega)
  have p2 := two_pow_pos s.toNat
  refine ⟨by simp, vc2_sound hR _ _ _ _ _ ?_⟩
  conv => whnf
  repeat' ((first | contradiction | (refine And.intro (fun hb => ?_) (fun hb => ?_) <;> first | contradiction | ((try simp only [SB, reduceCtorEq] at hb); try (exfalso; first | contradiction | omega))) | refine G2 ?_ | rw [ints_at (by omega)] | rw [ints_at0 (by omega)] | rw [ints_at' (by omega) (by omega)] | refine G1 ?_ | refine ⟨_, _, RSetOk_mk, ?_⟩ | fail) <;> conv => whnf)
  all_goals
    refine ⟨.inl rfl, ?_⟩
    conv => whnf
    refine ⟨[], ⟨rfl, trivial⟩, ?_, rfl, rfl⟩
    conv => whnf
    left
    conv => lhs; whnf
    refine congrArg AV.bool ?_
    first
    | exact (decide_eq_false (by omega)).symm
    | (have hv := setIn_val (t := t) (by omega) (by omega) h1 h2
       rw [eq_comm]
       first
       | (rw [decide_eq_true_iff]
          have := hv.1 (by assumption)
          omega)
       | (rw [decide_eq_false_iff_not]
          intro h
          exact absurd (hv.2 h.2.2) (by assumption)))
theorem row_at {α : Type} [Inhabited α] {f : α → List AV} {l : List α} {i : Nat} (h : i < l.length) : (l.map f)[((i : Nat) : Int).toNat]? = some (f (l.getD i default)) := map_at h
theorem row_prev {α : Type} [Inhabited α] {f : α → List AV} {l : List α} {i : Nat} (h : i ≤ l.length) (h0 : 0 < i) : (l.map f)[(((i : Nat) : Int) - 1).toNat]? = some (f (l.getD (i - 1) default)) := by
  have e : (((i : Nat) : Int) - 1).toNat = (((i - 1 : Nat) : Nat) : Int).toNat := by omega
  rw [e]; exact map_at (by omega)
theorem edge_at {l : List EdgeD} {i : Nat} (h : i < l.length) : (edgeRows l)[((i : Nat) : Int).toNat]? = some (edgeRow (l.getD i default)) := row_at h
theorem edge_prev {l : List EdgeD} {i : Nat} (h : i ≤ l.length) (h0 : 0 < i) : (edgeRows l)[(((i : Nat) : Int) - 1).toNat]? = some (edgeRow (l.getD (i - 1) default)) := row_prev h h0
theorem mask_in {s : Int} (h0 : 0 ≤ s) (h1 : s ≤ 31) : IntKind.i64.wrap (IntKind.i64.wrap (1 * 2 ^ (Nat.min s.toNat IntKind.i64.bits)) - 1) = 2 ^ s.toNat - 1 := by
  rw [shl_one h0 (by omega)]
  have p1 := two_pow_31 (n := s.toNat) (by omega)
  have p2 := two_pow_pos s.toNat
  exact IntWalk.i64_in _ (by omega)
def RAutoOk (xs : List AV) (r : AV) (objs : List AObj) : Prop := ∃ a, xs = [.agg (autoRow a)] ∧ r = .bool (decide (AutoOk a)) ∧ objs = []
theorem RAutoOk_mk {a : AutoD} : RAutoOk [.agg (autoRow a)] (.bool (decide (AutoOk a))) [] := ⟨a, rfl, rfl, rfl⟩
theorem s_spec_AutoOk : PureSound Try.prog 38 RAutoOk := by
  have hR : Rely Try.prog (ctxOf [(114, .pure RIn), (115, .pure RSetIn), (116, .pure RState), (117, .pure RLess)]) :=
    rely_cons b_spec_l1In.has s_spec_l1In (rely_cons b_spec_SetIn.has s_spec_SetIn (rely_cons b_spec_l4State.has s_spec_l4State (rely_cons b_spec_l4Less.has s_spec_l4Less (rely_nil mixed))))
  refine pure_of_aw b_spec_AutoOk ?_
  rintro xs r objs ⟨a, rfl, rfl, rfl⟩ ⟨w, own, vs, hrel⟩
  have hle := length_edgeRows a.edges
  clear hrel
  refine ⟨by simp, vc2_sound hR _ _ _ _ _ ?_⟩
  conv => whnf
  repeat' ((first | contradiction | (refine And.intro (fun hb => ?_) (fun hb => ?_) <;> first | contradiction | ((try simp only [SB, reduceCtorEq] at hb); try (exfalso; first | contradiction | omega))) | refine G2 ?_ | rw [ints_at (by omega)] | rw [ints_at0 (by omega)] | rw [ints_at' (by omega) (by omega)] | refine G1 ?_ | refine ⟨_, _, RIn_mk, ?_⟩ | refine ⟨_, mask_in (by omega) (by omega), ?_⟩ | refine ⟨_, _, RSetIn_mk (by omega) (by omega), ?_⟩ | fail) <;> conv => whnf)
  rotate_left
  · refine Lp.intro (α := Nat) (fun i => i ≤ a.edges.length ∧ ∀ j, j < i → EdgeAt a j) (fun i => a.edges.length - i) (fun i => [(1, .ptr 0 0 0), (3, .int .i64 i)]) (fun _ => [some (.box (autoRow a))]) ?_ ?_
    · refine ⟨0, ⟨by omega, by omega⟩, [some 0], rfl, rfl, And.intro (And.intro (.inl rfl) (And.intro (.inl rfl) (And.intro (.inl rfl) (And.intro (.inl rfl) trivial)))) trivial, ?_⟩
      repeat' (first
        | exact trivial
        | refine ⟨?_, ?_⟩
        | fail)
      all_goals first
        | with_reducible rfl
        | (conv => whnf
           try left
           conv => lhs; whnf
           first
             | rfl
             | exact congrArg (AV.int .i64) (by omega)
             | skip)
    · rintro i ⟨hi, hall⟩
      refine vc2_sound hR _ _ _ _ _ ?_
      conv => whnf
      repeat' ((first | contradiction | (refine And.intro (fun hb => ?_) (fun hb => ?_) <;> first | contradiction | ((try simp only [SB, reduceCtorEq] at hb); try (exfalso; first | contradiction | omega))) | refine G2 ?_ | rw [ints_at (by omega)] | rw [ints_at0 (by omega)] | rw [ints_at' (by omega) (by omega)] | refine G1 ?_ | rw [edge_at (by omega)] | rw [edge_prev (by omega) (by omega)] | refine ⟨_, _, RState_mk (by omega) (by omega), ?_⟩ | refine ⟨_, _, RIn_mk, ?_⟩ | refine ⟨_, _, RLess_mk (x := a.edges.getD (i - 1) default) (y := a.edges.getD i default), ?_⟩ | fail) <;> conv => whnf)
      · refine ⟨i + 1, ⟨by omega, fun j hj => ?_⟩, by omega, [some 0], rfl, rfl, ?_, ?_⟩
        · by_cases hji : j = i
          · subst hji; exact ⟨⟨by assumption, by assumption, by assumption⟩, fun _ => by assumption⟩
          · exact hall j (by omega)
        · repeat' (first | exact trivial | exact rfl | exact Or.inl rfl | refine And.intro ?_ ?_)
        · repeat' (first
            | exact trivial
            | refine ⟨?_, ?_⟩
            | fail)
          all_goals first
            | with_reducible rfl
            | (conv => whnf
               try left
               conv => lhs; whnf
               first
                 | rfl
                 | exact congrArg (AV.int .i64) (by omega)
                 | skip)
      · refine ⟨.inl rfl, ?_⟩
        conv => whnf
        refine ⟨[], ⟨rfl, trivial⟩, ?_, rfl, rfl⟩
        conv => whnf
        left
        conv => lhs; whnf
        refine congrArg AV.bool (decide_eq_false ?_).symm
        rintro ⟨_, _, g5⟩
        have := (g5 i (by omega)).2 (by omega)
        simp_all
      · refine ⟨i + 1, ⟨by omega, fun j hj => ?_⟩, by omega, [some 0], rfl, rfl, ?_, ?_⟩
        · by_cases hji : j = i
          · subst hji; exact ⟨⟨by assumption, by assumption, by assumption⟩, fun _ => by omega⟩
          · exact hall j (by omega)
        · repeat' (first | exact trivial | exact rfl | exact Or.inl rfl | refine And.intro ?_ ?_)
        · repeat' (first
            | exact trivial
            | refine ⟨?_, ?_⟩
            | fail)
          all_goals first
            | with_reducible rfl
            | (conv => whnf
               try left
               conv => lhs; whnf
               first
                 | rfl
                 | exact congrArg (AV.int .i64) (by omega)
                 | skip)
      · refine ⟨.inl rfl, ?_⟩
        conv => whnf
        refine ⟨[], ⟨rfl, trivial⟩, ?_, rfl, rfl⟩
        conv => whnf
        left
        conv => lhs; whnf
        refine congrArg AV.bool (decide_eq_false ?_).symm
        rintro ⟨_, _, g5⟩
        obtain ⟨⟨k1, k2, k3⟩, _⟩ := g5 i (by omega)
        contradiction
      · refine ⟨.inl rfl, ?_⟩
        conv => whnf
        refine ⟨[], ⟨rfl, trivial⟩, ?_, rfl, rfl⟩
        conv => whnf
        left
        conv => lhs; whnf
        refine congrArg AV.bool (decide_eq_false ?_).symm
        rintro ⟨_, _, g5⟩
        obtain ⟨⟨k1, k2, k3⟩, _⟩ := g5 i (by omega)
        contradiction
      · refine ⟨.inl rfl, ?_⟩
        conv => whnf
        refine ⟨[], ⟨rfl, trivial⟩, ?_, rfl, rfl⟩
        conv => whnf
        left
        conv => lhs; whnf
        refine congrArg AV.bool (decide_eq_false ?_).symm
        rintro ⟨_, _, g5⟩
        obtain ⟨⟨k1, k2, k3⟩, _⟩ := g5 i (by omega)
        contradiction
      · refine ⟨.inl rfl, ?_⟩
        conv => whnf
        refine ⟨[], ⟨rfl, trivial⟩, ?_, rfl, rfl⟩
        conv => whnf
        left
        conv => lhs; whnf
        refine congrArg AV.bool (decide_eq_true ?_).symm
        exact ⟨⟨by assumption, by assumption, by assumption⟩, by omega, fun j hj => hall j (by omega)⟩
  all_goals
    refine ⟨.inl rfl, ?_⟩
    conv => whnf
    refine ⟨[], ⟨rfl, trivial⟩, ?_, rfl, rfl⟩
    conv => whnf
    left
    conv => lhs; whnf
    refine congrArg AV.bool (decide_eq_false ?_).symm
    rintro ⟨⟨g1, g2, g3⟩, g4, g5⟩
    omega
def ixE (l n : Nat) (e : EdgeD) : Nat := (e.src.toNat * l + e.letter.toNat) * n + e.dst.toNat
def ofIx (l n i : Nat) (m : Bool) : EdgeD := ⟨((i / n / l : Nat) : Int), ((i / n % l : Nat) : Int), ((i % n : Nat) : Int), m⟩
def markN (l n : Nat) (es : List EdgeD) (i : Nat) : Nat := if es.any (fun e => ixE l n e == i && e.mark) then 2 else if es.any (fun e => ixE l n e == i) then 1 else 0
def cellE (l n : Nat) (es : List EdgeD) (i : Nat) : List EdgeD := if 0 < markN l n es i then [ofIx l n i (markN l n es i == 2)] else []
def mkEs (l n : Nat) (es : List EdgeD) (k : Nat) : List EdgeD := (List.range k).flatMap (cellE l n es)
theorem mkEs_succ {l n : Nat} {es : List EdgeD} {k : Nat} : mkEs l n es (k + 1) = mkEs l n es k ++ cellE l n es k := by simp [mkEs, List.range_succ]
def mkAll (l n : Nat) (es : List EdgeD) : List EdgeD := mkEs l n es (n * l * n)
theorem ixE_lt {l n : Nat} {e : EdgeD} (h1 : e.src.toNat < n) (h2 : e.letter.toNat < l) (h3 : e.dst.toNat < n) : ixE l n e < n * l * n := by
  unfold ixE
  have a1 : e.src.toNat * l + e.letter.toNat + 1 ≤ n * l := by
    have := Nat.mul_le_mul_right l (show e.src.toNat + 1 ≤ n by omega)
    rw [Nat.add_mul, Nat.one_mul] at this
    omega
  have a2 := Nat.mul_le_mul_right n a1
  rw [Nat.add_mul (_ + _), Nat.one_mul] at a2
  omega
def c_impl_SetOk : ICode := (.seq (.reg [Ol 2 .mv [cb false]]) (.seq (.reg [O1 3 .mv 0, Ol 4 (.call 130) [.t 3, ci 0, ci 2147483647], O1 2 .mv 4]) .ret))
theorem b_impl_SetOk : Body Try.prog 119 5 c_impl_SetOk [(.t 2)] := body_mk Try.func119 (by kernel_rfl) (by decide)
def c_impl_only : ICode := (.seq (.reg [Ol 2 .mv [ci 0]]) (.seq (.reg [O1 3 .mv 0, O1 4 (.cvt .u64) 3, Ol 5 (.bin .shl) [ci 1, .t 4], O1 2 .mv 5]) .ret))
theorem b_impl_only : Body Try.prog 141 6 c_impl_only [(.t 2)] := body_mk Try.func141 (by kernel_rfl) (by decide)
def c_impl_headOk : ICode := (.seq (.reg [Ol 6 .mv [cb false]]) (.seq (.reg [O1 7 .mv 0, O1 8 (.call 133) 7, O1 9 .mv 8, Og 10 .mv [.t 1] 9 true, Og 11 (.call 130) [.t 10, ci 0, ci 31] 9 true, Ol 12 .pick [.t 9, .t 11, cb false], O1 13 .mv 12, Og 14 .mv [.t 2] 13 true, Og 15 (.call 119) [.t 14] 13 true, Ol 16 .pick [.t 13, .t 15, cb false], O1 17 .mv 16, Og 18 .mv [.t 2] 17 true, Og 19 .mv [.t 1] 17 true, Og 20 (.call 141) [.t 19] 17 true, Og 21 (.bin .lss) [.t 18, .t 20] 17 true, Ol 22 .pick [.t 17, .t 21, cb false], O1 6 .mv 22]) .ret))
theorem b_impl_headOk : Body Try.prog 156 23 c_impl_headOk [(.t 6)] := body_mk Try.func156 (by kernel_rfl) (by decide)
def c_cmp_isNaN_int : ICode := (.seq (.reg [Ol 2 .mv [cb false]]) (.seq (.reg [O1 3 .mv 0, O1 4 .mv 0, O2 5 (.bin .neq) 3 4, O1 2 .mv 5]) .ret))
theorem b_cmp_isNaN_int : Body Try.prog 210 6 c_cmp_isNaN_int [(.t 2)] := body_mk Try.func210 (by kernel_rfl) (by decide)
def c_cmp_Compare_int : ICode := (.seq (.reg [Ol 4 .mv [ci 0]]) (.seq (.reg [O1 7 .mv 0, O1 8 (.call 210) 7, O1 5 .mv 8]) (.seq (.reg [O1 9 .mv 1, O1 10 (.call 210) 9, O1 6 .mv 10]) (.seq (.seq (.reg [O1 11 .mv 5]) (.cond (.t 11) (.seq (.seq (.reg [O1 12 .mv 6]) (.cond (.t 12) (.seq (.reg [Ol 4 .mv [ci 0]]) .ret) .skip)) (.seq (.reg [Ol 4 .mv [ci (-1)]]) .ret)) .skip)) (.seq (.seq (.reg [O1 13 .mv 6]) (.cond (.t 13) (.seq (.reg [Ol 4 .mv [ci 1]]) .ret) .skip)) (.seq (.seq (.reg [O1 14 .mv 0, O1 15 .mv 1, O2 16 (.bin .lss) 14 15]) (.cond (.t 16) (.seq (.reg [Ol 4 .mv [ci (-1)]]) .ret) .skip)) (.seq (.seq (.reg [O1 17 .mv 0, O1 18 .mv 1, O2 19 (.bin .gtr) 17 18]) (.cond (.t 19) (.seq (.reg [Ol 4 .mv [ci 1]]) .ret) .skip)) (.seq (.reg [Ol 4 .mv [ci 0]]) .ret))))))))
theorem b_cmp_Compare_int : Body Try.prog 200 20 c_cmp_Compare_int [(.t 4)] := body_mk Try.func200 (by kernel_rfl) (by decide)
def c_cmp_Or_int : ICode := (.seq (.reg [Ol 2 .mv [ci 0]]) (.seq (.reg [Ol 3 .mv [ci 0]]) (.seq (.seq (.reg [O1 6 .mv 0, O1 7 .len 6, Ol 8 .mv [ci 0]]) (.block 0 (.loop (.seq (.reg [O2 9 (.bin .lss) 8 7]) (.seq (.cond (.t 9) .skip (.exit 0)) (.seq (.block 1 (.seq (.reg [O2 10 (.iadr 1) 6 8, O1 11 .ld1 10, O1 5 .mv 11]) (.seq (.reg [O1 12 .mv 5, O1 13 .mv 3, O2 14 (.bin .neq) 12 13]) (.cond (.t 14) (.seq (.reg [O1 15 .mv 5, O1 2 .mv 15]) .ret) .skip)))) (.reg [Ol 16 (.bin .add) [.t 8, ci 1], O1 8 .mv 16]))))))) (.seq (.reg [O1 17 .mv 3, O1 2 .mv 17]) .ret))))
theorem b_cmp_Or_int : Body Try.prog 199 18 c_cmp_Or_int [(.t 2)] := body_mk Try.func199 (by kernel_rfl) (by decide)
def c_impl_compareEdges : ICode := (.seq (.reg [O1 2 (.box 4) 0, O1 3 (.box 4) 1, Ol 4 .mv [ci 0]]) (.seq (.drw [O1 5 (.fadr 0) 2, O1 6 .ld1 5, O1 7 (.fadr 0) 3, O1 8 .ld1 7, O2 9 (.call 200) 6 8, O1 10 (.fadr 1) 2, O1 11 .ld1 10, O1 12 (.fadr 1) 3, O1 13 .ld1 12, O2 14 (.call 200) 11 13, O1 15 (.fadr 2) 2, O1 16 .ld1 15, O1 17 (.fadr 2) 3, O1 18 .ld1 17, O2 19 (.call 200) 16 18, O3 20 (.bsl 1) 9 14 19, O1 21 (.call 199) 20, O1 4 .mv 21] (unB [0, 1, 0, 4, 15, 0, 32, 0, 128, 511, 0, 1024, 0, 4096, 16383, 32767, 65535, 131071] 0) true true) .ret))
theorem b_impl_compareEdges : Body Try.prog 157 22 c_impl_compareEdges [(.t 4)] := body_mk Try.func157 (by kernel_rfl) (by decide)
def c_impl_AutoOk : ICode := (.seq (.reg [O1 1 (.box 4) 0, Ol 2 .mv [cb false]]) (.seq (.seq (.reg [O1 5 (.fadr 0) 1, O1 6 .ld1 5, O1 7 (.fadr 1) 1, O1 8 .ld1 7, O1 9 (.fadr 2) 1, O1 10 .ld1 9, O3 11 (.call 156) 6 8 10, O1 12 .not 11, O1 13 .mv 12, Og 14 (.fadr 3) [.t 1] 13 false, Og 15 .ld1 [.t 14] 13 false, Og 16 .len [.t 15] 13 false, Og 17 (.bin .gtr) [.t 16, ci 2000] 13 false, Ol 18 .pick [.t 13, cb true, .t 17]]) (.cond (.t 18) (.seq (.reg [Ol 2 .mv [cb false]]) .ret) .skip)) (.seq (.seq (.reg [O1 19 (.fadr 3) 1, O1 20 .ld1 19, O1 21 .len 20, Ol 22 .mv [ci 0]]) (.block 0 (.loop (.seq (.reg [O2 23 (.bin .lss) 22 21]) (.seq (.cond (.t 23) .skip (.exit 0)) (.seq (.block 1 (.seq (.reg [O1 24 .mv 22, O2 25 (.iadr 4) 20 22, O1 26 (.ldn 4) 25, O0 4 (.alc [(.int .i64 0), (.int .i64 0), (.int .i64 0), (.bool false)]), O1 3 .mv 24, S2 (.st 4) 4 26]) (.seq (.seq (.reg [O1 27 (.fadr 0) 4, O1 28 .ld1 27, O1 29 (.fadr 1) 1, O1 30 .ld1 29, Ol 31 (.bin .sub) [.t 30, ci 1], Ol 32 (.call 130) [.t 28, ci 0, .t 31], O1 33 .not 32, O1 34 .mv 33, Og 35 (.fadr 2) [.t 4] 34 false, Og 36 .ld1 [.t 35] 34 false, Og 37 (.fadr 1) [.t 1] 34 false, Og 38 .ld1 [.t 37] 34 false, Og 39 (.bin .sub) [.t 38, ci 1] 34 false, Og 40 (.call 130) [.t 36, ci 0, .t 39] 34 false, Og 41 .not [.t 40] 34 false, Ol 42 .pick [.t 34, cb true, .t 41], O1 43 .mv 42, Og 44 (.fadr 1) [.t 4] 43 false, Og 45 .ld1 [.t 44] 43 false, Og 46 (.fadr 0) [.t 1] 43 false, Og 47 .ld1 [.t 46] 43 false, Og 48 (.bin .sub) [.t 47, ci 1] 43 false, Og 49 (.call 130) [.t 45, ci 0, .t 48] 43 false, Og 50 .not [.t 49] 43 false, Ol 51 .pick [.t 43, cb true, .t 50]]) (.cond (.t 51) (.seq (.reg [Ol 2 .mv [cb false]]) .ret) .skip)) (.seq (.drw [O1 52 .mv 3, Ol 53 (.bin .gtr) [.t 52, ci 0], O1 54 .mv 53, Og 55 (.fadr 3) [.t 1] 54 true, Og 56 .ld1 [.t 55] 54 true, Og 57 .mv [.t 3] 54 true, Og 58 (.bin .sub) [.t 57, ci 1] 54 true, Og 59 (.iadr 4) [.t 56, .t 58] 54 true, Og 60 (.ldn 4) [.t 59] 54 true, Og 61 (.ldn 4) [.t 4] 54 true, Og 62 (.call 157) [.t 60, .t 61] 54 true, Og 63 (.bin .geq) [.t 62, ci 0] 54 true, Ol 64 .pick [.t 54, .t 63, cb false]] (unB [0, 1, 3, 7, 15, 7, 39, 127, 255, 7, 1023, 2047, 4095] 0) true true) (.cond (.t 64) (.seq (.reg [Ol 2 .mv [cb false]]) .ret) .skip))))) (.reg [Ol 65 (.bin .add) [.t 22, ci 1], O1 22 .mv 65]))))))) (.seq (.reg [Ol 2 .mv [cb true]]) .ret))))
theorem b_impl_AutoOk : Body Try.prog 70 66 c_impl_AutoOk [(.t 2)] := body_mk Try.func70 (by kernel_rfl) (by decide)
theorem s_impl_SetOk : PureSound Try.prog 119 RSetOk := by
  have hR : Rely Try.prog (ctxOf [(130, .pure RIn)]) := rely_cons b_impl_inRange.has s_impl_inRange (rely_nil mixed)
  refine pure_of_aw b_impl_SetOk ?_
  rintro xs r objs ⟨s, rfl, rfl, rfl⟩ -
  refine ⟨by simp, vc2_sound hR _ _ _ _ _ ?_⟩
  conv => whnf
  repeat' ((first | contradiction | (refine And.intro (fun hb => ?_) (fun hb => ?_) <;> first | contradiction | ((try simp only [SB, reduceCtorEq] at hb); try (exfalso; first | contradiction | omega))) | refine G2 ?_ | rw [ints_at (by omega)] | rw [ints_at0 (by omega)] | rw [ints_at' (by omega) (by omega)] | refine G1 ?_ | refine ⟨_, _, RIn_mk, ?_⟩ | fail) <;> conv => whnf)
  all_goals
    refine ⟨.inl rfl, ?_⟩
    conv => whnf
    refine ⟨[], ⟨rfl, trivial⟩, ?_, rfl, rfl⟩
    conv => whnf
    left
    conv => lhs; whnf
    try exact congrArg AV.bool (by simp_all)
def ROnly (xs : List AV) (r : AV) (objs : List AObj) : Prop := ∃ i, xs = [.int .i64 i] ∧ 0 ≤ i ∧ i ≤ 62 ∧ r = .int .i64 (2 ^ i.toNat) ∧ objs = []
theorem ROnly_mk {i : Int} (h0 : 0 ≤ i) (h1 : i ≤ 62) : ROnly [.int .i64 i] (.int .i64 (2 ^ i.toNat)) [] := ⟨i, rfl, h0, h1, rfl, rfl⟩
theorem s_impl_only : PureSound Try.prog 141 ROnly := by
  have hR : Rely Try.prog (ctxOf []) := rely_nil mixed
  refine pure_of_aw b_impl_only ?_
  rintro xs r objs ⟨i, rfl, h0, h1, rfl, rfl⟩ -
  refine ⟨by simp, vc2_sound hR _ _ _ _ _ ?_⟩
  conv => whnf
  repeat' ((first | contradiction | (refine And.intro (fun hb => ?_) (fun hb => ?_) <;> first | contradiction | ((try simp only [SB, reduceCtorEq] at hb); try (exfalso; first | contradiction | omega))) | refine G2 ?_ | rw [ints_at (by omega)] | rw [ints_at0 (by omega)] | rw [ints_at' (by omega) (by omega)] | refine G1 ?_ | refine ⟨_, IntWalk.u64_in _ (by omega), ?_⟩ | fail) <;> conv => whnf)
  refine ⟨.inl rfl, ?_⟩
  conv => whnf
  refine ⟨[], ⟨rfl, trivial⟩, ?_, rfl, rfl⟩
  conv => whnf
  left
  conv => lhs; whnf
  exact congrArg (AV.int .i64) (shl_one h0 h1)
def RHeadOk (xs : List AV) (r : AV) (objs : List AObj) : Prop := ∃ l s t, xs = [.int .i64 l, .int .i64 s, .int .i64 t] ∧ r = .bool (decide (HeadOk l s t)) ∧ objs = []
theorem RHeadOk_mk {l s t : Int} : RHeadOk [.int .i64 l, .int .i64 s, .int .i64 t] (.bool (decide (HeadOk l s t))) [] := ⟨l, s, t, rfl, rfl, rfl⟩
theorem s_impl_headOk : PureSound Try.prog 156 RHeadOk := by
  have hR : Rely Try.prog (ctxOf [(133, .pure RIsLetters), (130, .pure RIn), (119, .pure RSetOk), (141, .pure ROnly)]) :=
    rely_cons b_impl_isLetters.has s_impl_isLetters (rely_cons b_impl_inRange.has s_impl_inRange (rely_cons b_impl_SetOk.has s_impl_SetOk (rely_cons b_impl_only.has s_impl_only (rely_nil mixed))))
  refine pure_of_aw b_impl_headOk ?_
  rintro xs r objs ⟨l, s, t, rfl, rfl, rfl⟩ -
  refine ⟨by simp, vc2_sound hR _ _ _ _ _ ?_⟩
  conv => whnf
  repeat' ((first | contradiction | (refine And.intro (fun hb => ?_) (fun hb => ?_) <;> first | contradiction | ((try simp only [SB, reduceCtorEq] at hb); try (exfalso; first | contradiction | omega))) | refine G2 ?_ | rw [ints_at (by omega)] | rw [ints_at0 (by omega)] | rw [ints_at' (by omega) (by omega)] | refine G1 ?_ | refine ⟨_, _, RIsLetters_mk, ?_⟩ | refine ⟨_, _, RIn_mk, ?_⟩ | refine ⟨_, _, RSetOk_mk, ?_⟩ | refine ⟨_, _, ROnly_mk (by omega) (by omega), ?_⟩ | fail) <;> conv => whnf)
  all_goals
    refine ⟨.inl rfl, ?_⟩
    conv => whnf
    refine ⟨[], ⟨rfl, trivial⟩, ?_, rfl, rfl⟩
    conv => whnf
    left
    conv => lhs; whnf
    refine congrArg AV.bool ?_
    first
    | exact (decide_eq_true (show HeadOk l s t from ⟨by omega, by omega, by omega⟩)).symm
    | (refine (decide_eq_false ?_).symm
       rintro ⟨g1, g2, g3⟩
       omega)
def RNaN (xs : List AV) (r : AV) (objs : List AObj) : Prop := ∃ i, xs = [.int .i64 i] ∧ r = .bool false ∧ objs = []
theorem RNaN_mk {i : Int} : RNaN [.int .i64 i] (.bool false) [] := ⟨i, rfl, rfl, rfl⟩
theorem s_cmp_isNaN : PureSound Try.prog 210 RNaN := by
  have hR : Rely Try.prog (ctxOf []) := rely_nil mixed
  refine pure_of_aw b_cmp_isNaN_int ?_
  rintro xs r objs ⟨i, rfl, rfl, rfl⟩ -
  refine ⟨by simp, vc2_sound hR _ _ _ _ _ ?_⟩
  conv => whnf
  repeat' ((first | contradiction | (refine And.intro (fun hb => ?_) (fun hb => ?_) <;> first | contradiction | ((try simp only [SB, reduceCtorEq] at hb); try (exfalso; first | contradiction | omega))) | refine G2 ?_ | rw [ints_at (by omega)] | rw [ints_at0 (by omega)] | rw [ints_at' (by omega) (by omega)] | refine G1 ?_ | fail) <;> conv => whnf)
  all_goals
    refine ⟨.inl rfl, ?_⟩
    conv => whnf
    refine ⟨[], ⟨rfl, trivial⟩, ?_, rfl, rfl⟩
    conv => whnf
    left
    conv => lhs; whnf
    try exact congrArg AV.bool (by simp_all)
def cmpI (x y : Int) : Int := if x < y then -1 else if x > y then 1 else 0
def RCompare (xs : List AV) (r : AV) (objs : List AObj) : Prop := ∃ x y, xs = [.int .i64 x, .int .i64 y] ∧ r = .int .i64 (cmpI x y) ∧ objs = []
theorem RCompare_mk {x y : Int} : RCompare [.int .i64 x, .int .i64 y] (.int .i64 (cmpI x y)) [] := ⟨x, y, rfl, rfl, rfl⟩
theorem s_cmp_Compare : PureSound Try.prog 200 RCompare := by
  have hR : Rely Try.prog (ctxOf [(210, .pure RNaN)]) := rely_cons b_cmp_isNaN_int.has s_cmp_isNaN (rely_nil mixed)
  refine pure_of_aw b_cmp_Compare_int ?_
  rintro xs r objs ⟨x, y, rfl, rfl, rfl⟩ -
  refine ⟨by simp, vc2_sound hR _ _ _ _ _ ?_⟩
  conv => whnf
  repeat' ((first | contradiction | (refine And.intro (fun hb => ?_) (fun hb => ?_) <;> first | contradiction | ((try simp only [SB, reduceCtorEq] at hb); try (exfalso; first | contradiction | omega))) | refine G2 ?_ | rw [ints_at (by omega)] | rw [ints_at0 (by omega)] | rw [ints_at' (by omega) (by omega)] | refine G1 ?_ | refine ⟨_, _, RNaN_mk, ?_⟩ | fail) <;> conv => whnf)
  all_goals
    refine ⟨.inl rfl, ?_⟩
    conv => whnf
    refine ⟨[], ⟨rfl, trivial⟩, ?_, rfl, rfl⟩
    conv => whnf
    left
    conv => lhs; whnf
    exact congrArg (AV.int .i64) (by unfold cmpI; split <;> (try split) <;> omega)
def orI : List Int → Int
  | [] => 0
  | x :: r => if x ≠ 0 then x else orI r
theorem orI_drop {l : List Int} {i : Nat} (h : i < l.length) : orI (l.drop i) = if l.getD i 0 ≠ 0 then l.getD i 0 else orI (l.drop (i + 1)) := by
  rw [List.drop_eq_getElem_cons h]
  simp [orI, List.getD_eq_getElem?_getD, List.getElem?_eq_getElem h]
def ROr (xs : List AV) (r : AV) (objs : List AObj) : Prop := ∃ l, xs = [.val (ints l)] ∧ l.length ≤ 1000000 ∧ r = .int .i64 (orI l) ∧ objs = []
theorem ROr_eq {xs : List AV} {l : List Int} (h : xs = [.val (ints l)]) (h2 : l.length ≤ 1000000) : ROr xs (.int .i64 (orI l)) [] := ⟨l, h, h2, rfl, rfl⟩
theorem s_cmp_Or : PureSound Try.prog 199 ROr := by
  have hR : Rely Try.prog (ctxOf []) := rely_nil mixed
  refine pure_of_aw b_cmp_Or_int ?_
  rintro xs r objs ⟨l, rfl, hl, rfl, rfl⟩ -
  refine ⟨by simp, vc2_sound hR _ _ _ _ _ ?_⟩
  conv => whnf
  repeat' ((first | contradiction | (refine And.intro (fun hb => ?_) (fun hb => ?_) <;> first | contradiction | ((try simp only [SB, reduceCtorEq] at hb); try (exfalso; first | contradiction | omega))) | refine G2 ?_ | rw [ints_at (by omega)] | rw [ints_at0 (by omega)] | rw [ints_at' (by omega) (by omega)] | refine G1 ?_ | fail) <;> conv => whnf)
  refine Lp.intro (α := Nat) (fun i => i ≤ l.length ∧ orI (l.drop i) = orI l) (fun i => l.length - i) (fun i => [(3, .int .i64 0), (6, .val (ints l)), (7, .int .i64 (ints l).length), (8, .int .i64 i)]) (fun _ => []) ?_ ?_
  · refine ⟨0, ⟨by omega, rfl⟩, [], rfl, rfl, trivial, ?_⟩
    repeat' (first
      | exact trivial
      | refine ⟨?_, ?_⟩
      | fail)
    all_goals first
      | with_reducible rfl
      | (conv => whnf
         try left
         conv => lhs; whnf
         first
           | rfl
           | exact congrArg (AV.int .i64) (by omega)
           | skip)
  · rintro i ⟨hi, hall⟩
    refine vc2_sound hR _ _ _ _ _ ?_
    conv => whnf
    repeat' ((first | contradiction | (refine And.intro (fun hb => ?_) (fun hb => ?_) <;> first | contradiction | ((try simp only [SB, reduceCtorEq] at hb); try (exfalso; first | contradiction | omega))) | refine G2 ?_ | rw [ints_at (by omega)] | rw [ints_at0 (by omega)] | rw [ints_at' (by omega) (by omega)] | refine G1 ?_ | fail) <;> conv => whnf)
    · refine ⟨.inl rfl, ?_⟩
      conv => whnf
      refine ⟨[], ⟨rfl, trivial⟩, ?_, rfl, rfl⟩
      conv => whnf
      left
      conv => lhs; whnf
      exact congrArg (AV.int .i64) (by rw [← hall, orI_drop (by omega), if_pos (by assumption)])
    · refine ⟨i + 1, ⟨by omega, by rw [← hall, orI_drop (i := i) (by omega), if_neg (by simpa using hb)]⟩, by omega, [], rfl, rfl, ?_, ?_⟩
      · repeat' (first | exact trivial | exact rfl | exact Or.inl rfl | refine And.intro ?_ ?_)
      · repeat' (first
          | exact trivial
          | refine ⟨?_, ?_⟩
          | fail)
        all_goals first
          | with_reducible rfl
          | (conv => whnf
             try left
             conv => lhs; whnf
             first
               | rfl
               | exact congrArg (AV.int .i64) (by omega)
               | skip)
    · refine ⟨.inl rfl, ?_⟩
      conv => whnf
      refine ⟨[], ⟨rfl, trivial⟩, ?_, rfl, rfl⟩
      conv => whnf
      left
      conv => lhs; whnf
      exact congrArg (AV.int .i64) (by rw [← hall, List.drop_of_length_le (by omega)]; rfl)
def cmpE (x y : EdgeD) : Int := orI [cmpI x.src y.src, cmpI x.letter y.letter, cmpI x.dst y.dst]
theorem cmpE_less {x y : EdgeD} : 0 ≤ cmpE x y ↔ edgeLess x y = false := by
  simp only [cmpE, orI, cmpI, edgeLess]
  (repeat' split) <;> simp_all <;> omega
def RCompareE (xs : List AV) (r : AV) (objs : List AObj) : Prop := ∃ x y, xs = [.agg (edgeRow x), .agg (edgeRow y)] ∧ r = .int .i64 (cmpE x y) ∧ objs = []
theorem RCompareE_mk {x y : EdgeD} : RCompareE [.agg (edgeRow x), .agg (edgeRow y)] (.int .i64 (cmpE x y)) [] := ⟨x, y, rfl, rfl, rfl⟩
theorem s_impl_compareEdges : PureSound Try.prog 157 RCompareE := by
  have hR : Rely Try.prog (ctxOf [(200, .pure RCompare), (199, .pure ROr)]) := rely_cons b_cmp_Compare_int.has s_cmp_Compare (rely_cons b_cmp_Or_int.has s_cmp_Or (rely_nil mixed))
  refine pure_of_aw b_impl_compareEdges ?_
  rintro xs r objs ⟨x, y, rfl, rfl, rfl⟩ -
  refine ⟨by simp, vc2_sound hR _ _ _ _ _ ?_⟩
  conv => whnf
  repeat' ((first | contradiction | (refine And.intro (fun hb => ?_) (fun hb => ?_) <;> first | contradiction | ((try simp only [SB, reduceCtorEq] at hb); try (exfalso; first | contradiction | omega))) | refine G2 ?_ | rw [ints_at (by omega)] | rw [ints_at0 (by omega)] | rw [ints_at' (by omega) (by omega)] | refine G1 ?_ | refine ⟨_, _, RCompare_mk, ?_⟩ | fail) <;> conv => whnf)
  refine ⟨_, _, ROr_eq (l := [cmpI x.src y.src, cmpI x.letter y.letter, cmpI x.dst y.dst]) rfl (by simp), ?_⟩
  conv => whnf
  repeat' ((first | contradiction | (refine And.intro (fun hb => ?_) (fun hb => ?_) <;> first | contradiction | ((try simp only [SB, reduceCtorEq] at hb); try (exfalso; first | contradiction | omega))) | refine G2 ?_ | rw [ints_at (by omega)] | rw [ints_at0 (by omega)] | rw [ints_at' (by omega) (by omega)] | refine G1 ?_ | fail) <;> conv => whnf)
  refine ⟨.inl rfl, ?_⟩
  conv => whnf
  refine ⟨[], ⟨rfl, trivial⟩, ?_, rfl, rfl⟩
  conv => whnf
  left
  conv => lhs; whnf
  rfl
theorem s_impl_AutoOk : PureSound Try.prog 70 RAutoOk := by
  have hR : Rely Try.prog (ctxOf [(130, .pure RIn), (156, .pure RHeadOk), (157, .pure RCompareE)]) :=
    rely_cons b_impl_inRange.has s_impl_inRange (rely_cons b_impl_headOk.has s_impl_headOk (rely_cons b_impl_compareEdges.has s_impl_compareEdges (rely_nil mixed)))
  refine pure_of_aw b_impl_AutoOk ?_
  rintro xs r objs ⟨a, rfl, rfl, rfl⟩ ⟨w, own, vs, hrel⟩
  have hle := length_edgeRows a.edges
  clear hrel
  refine ⟨by simp, vc2_sound hR _ _ _ _ _ ?_⟩
  conv => whnf
  repeat' ((first | contradiction | (refine And.intro (fun hb => ?_) (fun hb => ?_) <;> first | contradiction | ((try simp only [SB, reduceCtorEq] at hb); try (exfalso; first | contradiction | omega))) | refine G2 ?_ | rw [ints_at (by omega)] | rw [ints_at0 (by omega)] | rw [ints_at' (by omega) (by omega)] | refine G1 ?_ | refine ⟨_, _, RHeadOk_mk, ?_⟩ | fail) <;> conv => whnf)
  · refine ⟨.inl rfl, ?_⟩
    conv => whnf
    refine ⟨[], ⟨rfl, trivial⟩, ?_, rfl, rfl⟩
    conv => whnf
    left
    conv => lhs; whnf
    refine congrArg AV.bool (decide_eq_false ?_).symm
    rintro ⟨_, g4, g5⟩
    omega
  · have hh : HeadOk a.letters a.states a.start := by assumption
    obtain ⟨g1, g2, g3⟩ := hh
    refine Lp.intro (α := Nat) (fun i => i ≤ a.edges.length ∧ ∀ j, j < i → EdgeAt a j) (fun i => a.edges.length - i) (fun i => [(1, .ptr 0 0 0), (20, .val (edgeRows a.edges)), (21, .int .i64 (edgeRows a.edges).length), (22, .int .i64 i)]) (fun _ => [some (.box (autoRow a))]) ?_ ?_
    · refine ⟨0, ⟨by omega, by omega⟩, [some 0], rfl, rfl, ?_, ?_⟩
      · repeat' (first | exact trivial | exact rfl | exact Or.inl rfl | refine And.intro ?_ ?_)
      · repeat' (first
          | exact trivial
          | refine ⟨?_, ?_⟩
          | fail)
        all_goals first
          | with_reducible rfl
          | (conv => whnf
             try left
             conv => lhs; whnf
             first
               | rfl
               | exact congrArg (AV.int .i64) (by omega)
               | skip)
    · rintro i ⟨hi, hall⟩
      refine vc2_sound hR _ _ _ _ _ ?_
      conv => whnf
      repeat' ((first | contradiction | (refine And.intro (fun hb => ?_) (fun hb => ?_) <;> first | contradiction | ((try simp only [SB, reduceCtorEq] at hb); try (exfalso; first | contradiction | omega))) | refine G2 ?_ | rw [ints_at (by omega)] | rw [ints_at0 (by omega)] | rw [ints_at' (by omega) (by omega)] | refine G1 ?_ | rw [edge_at (by omega)] | rw [edge_prev (by omega) (by omega)] | refine ⟨_, _, RIn_mk, ?_⟩ | refine ⟨_, _, RCompareE_mk (x := a.edges.getD (i - 1) default) (y := a.edges.getD i default), ?_⟩ | fail) <;> conv => whnf)
      · refine ⟨.inl rfl, ?_⟩
        conv => whnf
        refine ⟨[], ⟨rfl, trivial⟩, ?_, rfl, rfl⟩
        conv => whnf
        left
        conv => lhs; whnf
        refine congrArg AV.bool (decide_eq_false ?_).symm
        rintro ⟨_, _, g5⟩
        have k1 := (g5 i (by omega)).2 (by omega)
        rw [cmpE_less.1 (by assumption)] at k1
        cases k1
      · refine ⟨i + 1, ⟨by omega, fun j hj => ?_⟩, by omega, [some 0], rfl, rfl, ?_, ?_⟩
        · by_cases hji : j = i
          · subst hji
            refine ⟨⟨by assumption, by assumption, by assumption⟩, fun _ => ?_⟩
            rw [← Bool.not_eq_false]
            intro hf
            have := cmpE_less.2 hf
            omega
          · exact hall j (by omega)
        · repeat' (first | exact trivial | exact rfl | exact Or.inl rfl | refine And.intro ?_ ?_)
        · repeat' (first
            | exact trivial
            | refine ⟨?_, ?_⟩
            | fail)
          all_goals first
            | with_reducible rfl
            | (conv => whnf
               try left
               conv => lhs; whnf
               first
                 | rfl
                 | exact congrArg (AV.int .i64) (by omega)
                 | skip)
      · refine ⟨i + 1, ⟨by omega, fun j hj => ?_⟩, by omega, [some 0], rfl, rfl, ?_, ?_⟩
        · by_cases hji : j = i
          · subst hji; exact ⟨⟨by assumption, by assumption, by assumption⟩, fun _ => by omega⟩
          · exact hall j (by omega)
        · repeat' (first | exact trivial | exact rfl | exact Or.inl rfl | refine And.intro ?_ ?_)
        · repeat' (first
            | exact trivial
            | refine ⟨?_, ?_⟩
            | fail)
          all_goals first
            | with_reducible rfl
            | (conv => whnf
               try left
               conv => lhs; whnf
               first
                 | rfl
                 | exact congrArg (AV.int .i64) (by omega)
                 | skip)
      · refine ⟨.inl rfl, ?_⟩
        conv => whnf
        refine ⟨[], ⟨rfl, trivial⟩, ?_, rfl, rfl⟩
        conv => whnf
        left
        conv => lhs; whnf
        refine congrArg AV.bool (decide_eq_false ?_).symm
        rintro ⟨_, _, g5⟩
        obtain ⟨⟨k1, k2, k3⟩, _⟩ := g5 i (by omega)
        contradiction
      · refine ⟨.inl rfl, ?_⟩
        conv => whnf
        refine ⟨[], ⟨rfl, trivial⟩, ?_, rfl, rfl⟩
        conv => whnf
        left
        conv => lhs; whnf
        refine congrArg AV.bool (decide_eq_false ?_).symm
        rintro ⟨_, _, g5⟩
        obtain ⟨⟨k1, k2, k3⟩, _⟩ := g5 i (by omega)
        contradiction
      · refine ⟨.inl rfl, ?_⟩
        conv => whnf
        refine ⟨[], ⟨rfl, trivial⟩, ?_, rfl, rfl⟩
        conv => whnf
        left
        conv => lhs; whnf
        refine congrArg AV.bool (decide_eq_false ?_).symm
        rintro ⟨_, _, g5⟩
        obtain ⟨⟨k1, k2, k3⟩, _⟩ := g5 i (by omega)
        contradiction
      · refine ⟨.inl rfl, ?_⟩
        conv => whnf
        refine ⟨[], ⟨rfl, trivial⟩, ?_, rfl, rfl⟩
        conv => whnf
        left
        conv => lhs; whnf
        refine congrArg AV.bool (decide_eq_true ?_).symm
        exact ⟨⟨by assumption, by assumption, by assumption⟩, by omega, fun j hj => hall j (by omega)⟩
  · refine ⟨.inl rfl, ?_⟩
    conv => whnf
    refine ⟨[], ⟨rfl, trivial⟩, ?_, rfl, rfl⟩
    conv => whnf
    left
    conv => lhs; whnf
    refine congrArg AV.bool (decide_eq_false ?_).symm
    rintro ⟨g3, g4, g5⟩
    contradiction
end Go.Proofs.Ythanhknkoikbfaa.Ct
namespace Go.Proofs.Ythanhknkoikbfaa.Ct
open Go Go.Proofs Go.Proofs.Ythanhknkoikbfaa.Av Go.Proofs.Ythanhknkoikbfaa.Pl
def c_impl_has : ICode := (.seq (.reg [Ol 4 .mv [cb false]]) (.seq (.reg [O1 5 .mv 0, O1 6 .mv 1, O1 7 (.cvt .u64) 6, O2 8 (.bin .shr) 5 7, Ol 9 (.bin .and) [.t 8, ci 1], Ol 10 (.bin .eql) [.t 9, ci 1], O1 4 .mv 10]) .ret))
theorem b_impl_has : Body Try.prog 125 11 c_impl_has [(.t 4)] := body_mk Try.func125 (by kernel_rfl) (by decide)
def c_spec_l1Bit : ICode := (.seq (.reg [Ol 2 .mv [ci 0]]) (.seq (.reg [O1 3 .mv 0, Ol 4 (.bin .and) [.t 3, ci 31], Ol 5 (.bin .shl) [ci 1, .t 4], O1 2 .mv 5]) .ret))
theorem b_spec_l1Bit : Body Try.prog 123 6 c_spec_l1Bit [(.t 2)] := body_mk Try.func123 (by kernel_rfl) (by decide)
def c_spec_l1Has : ICode := (.seq (.reg [Ol 4 .mv [cb false]]) (.seq (.reg [O1 5 .mv 1, Ol 6 (.call 114) [.t 5, ci 0, ci 30], O1 7 .mv 6, Og 8 .mv [.t 0] 7 true, Og 9 .mv [.t 1] 7 true, Og 10 (.call 123) [.t 9] 7 true, Og 11 (.bin .and) [.t 8, .t 10] 7 true, Og 12 (.bin .neq) [.t 11, ci 0] 7 true, Ol 13 .pick [.t 7, .t 12, cb false], O1 4 .mv 13]) .ret))
theorem b_spec_l1Has : Body Try.prog 73 14 c_spec_l1Has [(.t 4)] := body_mk Try.func73 (by kernel_rfl) (by decide)
theorem natPow (k : Nat) : ((2 ^ k : Nat) : Int) = (2 : Int) ^ k := by simp
theorem shr_bit {X : Nat} {i : Int} (hX : X ≤ 4611686018427387904) (h0 : 0 ≤ i) (h1 : i ≤ 62) :
    (IntKind.i64.wrap (BitVec.ofInt IntKind.i64.bits (((X : Nat) : Int).fdiv (2 ^ (Nat.min i.toNat IntKind.i64.bits))) &&& BitVec.ofInt IntKind.i64.bits 1).toNat == 1) = X.testBit i.toNat := by
  have hm : Nat.min i.toNat IntKind.i64.bits = i.toNat := Nat.min_eq_left (show i.toNat ≤ 64 by omega)
  have hd : ((X : Nat) : Int).fdiv (2 ^ i.toNat) = ((X / 2 ^ i.toNat : Nat) : Int) := by
    rw [← natPow, Int.fdiv_eq_ediv_of_nonneg _ (Int.natCast_nonneg _), Int.natCast_ediv]
  have hle : X / 2 ^ i.toNat ≤ X := Nat.div_le_self _ _
  rw [hm, hd, and_val (Int.natCast_nonneg _) (Int.ofNat_le.2 (Nat.le_trans hle hX)) (by decide) (by decide)]
  rw [Nat.testBit, Nat.shiftRight_eq_div_pow, Int.toNat_natCast, show (1 : Int).toNat = 1 from rfl, Nat.one_and_eq_mod_two, Nat.and_one_is_mod]
  have := Nat.mod_lt (X / 2 ^ i.toNat) (show 0 < 2 by decide)
  rw [Bool.eq_iff_iff, beq_iff_eq, bne_iff_ne]
  omega
def RHas (xs : List AV) (r : AV) (objs : List AObj) : Prop := ∃ (X : Nat) (i : Int), xs = [.int .i64 ((X : Nat) : Int), .int .i64 i] ∧ X < 2 ^ 31 ∧ 0 ≤ i ∧ i ≤ 30 ∧ r = .bool (X.testBit i.toNat) ∧ objs = []
theorem RHas_mk {X : Nat} {i : Int} (h : X < 2 ^ 31) (h0 : 0 ≤ i) (h1 : i ≤ 30) : RHas [.int .i64 ((X : Nat) : Int), .int .i64 i] (.bool (X.testBit i.toNat)) [] := ⟨X, i, rfl, h, h0, h1, rfl, rfl⟩
theorem s_impl_has : PureSound Try.prog 125 RHas := by
  have hR : Rely Try.prog (ctxOf []) := rely_nil mixed
  refine pure_of_aw b_impl_has ?_
  rintro xs r objs ⟨X, i, rfl, hX, h0, h1, rfl, rfl⟩ -
  have hX' : X ≤ 4611686018427387904 := by omega
  rw [← shr_bit hX' h0 (by omega)]
  refine ⟨by simp, vc2_sound hR _ _ _ _ _ ?_⟩
  conv => whnf
  repeat' ((first | contradiction | (refine And.intro (fun hb => ?_) (fun hb => ?_) <;> first | contradiction | ((try simp only [SB, reduceCtorEq] at hb); try (exfalso; first | contradiction | omega))) | refine G2 ?_ | rw [ints_at (by omega)] | rw [ints_at0 (by omega)] | rw [ints_at' (by omega) (by omega)] | refine G1 ?_ | refine ⟨_, IntWalk.u64_in _ (by omega), ?_⟩ | fail) <;> conv => whnf)
  all_goals
    refine ⟨.inl rfl, ?_⟩
    conv => whnf
    refine ⟨[], ⟨rfl, trivial⟩, ?_, rfl, rfl⟩
    conv => whnf
    left
    conv => lhs; whnf
    refine congrArg AV.bool ?_
    symm
    first
    | (rw [beq_iff_eq]; assumption)
    | (rw [beq_eq_false_iff_ne]; assumption)
def RBit (xs : List AV) (r : AV) (objs : List AObj) : Prop := ∃ i : Int, xs = [.int .i64 i] ∧ 0 ≤ i ∧ i ≤ 30 ∧ r = .int .i64 ((2 ^ i.toNat : Nat) : Int) ∧ objs = []
theorem RBit_mk {i : Int} (h0 : 0 ≤ i) (h1 : i ≤ 30) : RBit [.int .i64 i] (.int .i64 ((2 ^ i.toNat : Nat) : Int)) [] := ⟨i, rfl, h0, h1, rfl, rfl⟩
theorem and31 {i : Int} (h0 : 0 ≤ i) (h1 : i ≤ 31) : IntKind.i64.wrap (BitVec.ofInt IntKind.i64.bits i &&& BitVec.ofInt IntKind.i64.bits 31).toNat = i := by
  rw [and_val h0 (by omega) (by decide) (by decide), show (31 : Int).toNat = 2 ^ 5 - 1 from rfl, Nat.and_two_pow_sub_one_eq_mod, Nat.mod_eq_of_lt (by omega)]
  omega
theorem s_spec_l1Bit : PureSound Try.prog 123 RBit := by
  have hR : Rely Try.prog (ctxOf []) := rely_nil mixed
  refine pure_of_aw b_spec_l1Bit ?_
  rintro xs r objs ⟨i, rfl, h0, h1, rfl, rfl⟩ -
  refine ⟨by simp, vc2_sound hR _ _ _ _ _ ?_⟩
  conv => whnf
  repeat' ((first | contradiction | (refine And.intro (fun hb => ?_) (fun hb => ?_) <;> first | contradiction | ((try simp only [SB, reduceCtorEq] at hb); try (exfalso; first | contradiction | omega))) | refine G2 ?_ | rw [ints_at (by omega)] | rw [ints_at0 (by omega)] | rw [ints_at' (by omega) (by omega)] | refine G1 ?_ | rw [and31 h0 (by omega)] | fail) <;> conv => whnf)
  refine ⟨.inl rfl, ?_⟩
  conv => whnf
  refine ⟨[], ⟨rfl, trivial⟩, ?_, rfl, rfl⟩
  conv => whnf
  left
  conv => lhs; whnf
  refine congrArg (AV.int .i64) ?_
  rw [natPow]
  exact shl_one h0 (by omega)
theorem and_bit {X : Nat} {i : Int} (hX : X < 2 ^ 31) (h0 : 0 ≤ i) (h1 : i ≤ 30) :
    IntKind.i64.wrap (BitVec.ofInt IntKind.i64.bits ((X : Nat) : Int) &&& BitVec.ofInt IntKind.i64.bits ((2 ^ i.toNat : Nat) : Int)).toNat = ((X &&& 2 ^ i.toNat : Nat) : Int) := by
  have h3 : 2 ^ i.toNat ≤ 4611686018427387904 := Nat.le_trans (Nat.pow_le_pow_right (show 0 < 2 by decide) (show i.toNat ≤ 30 by omega)) (by decide)
  rw [and_val (by omega) (by omega) (Int.natCast_nonneg _) (Int.ofNat_le.2 h3), Int.toNat_natCast, Int.toNat_natCast]
theorem and_bit_ne {X i : Nat} : ((X &&& 2 ^ i : Nat) : Int) ≠ 0 ↔ X.testBit i = true := by
  constructor
  · intro h
    cases hb : X.testBit i with
    | true => rfl
    | false =>
      exfalso
      refine h ?_
      have : X &&& 2 ^ i = 0 := Nat.eq_of_testBit_eq fun j => by
        rw [Nat.testBit_and, Nat.testBit_two_pow, Nat.zero_testBit]
        by_cases hij : i = j
        · subst hij; simp [hb]
        · simp [hij]
      omega
  · intro h h0
    have h0 : X &&& 2 ^ i = 0 := by omega
    have : (X &&& 2 ^ i).testBit i = true := by rw [Nat.testBit_and, h, Nat.testBit_two_pow]; simp
    rw [h0, Nat.zero_testBit] at this
    cases this
theorem s_spec_l1Has : PureSound Try.prog 73 RHas := by
  have hR : Rely Try.prog (ctxOf [(114, .pure RIn), (123, .pure RBit)]) := rely_cons b_spec_l1In.has s_spec_l1In (rely_cons b_spec_l1Bit.has s_spec_l1Bit (rely_nil mixed))
  refine pure_of_aw b_spec_l1Has ?_
  rintro xs r objs ⟨X, i, rfl, hX, h0, h1, rfl, rfl⟩ -
  refine ⟨by simp, vc2_sound hR _ _ _ _ _ ?_⟩
  conv => whnf
  repeat' ((first | contradiction | (refine And.intro (fun hb => ?_) (fun hb => ?_) <;> first | contradiction | ((try simp only [SB, reduceCtorEq] at hb); try (exfalso; first | contradiction | omega))) | refine G2 ?_ | rw [ints_at (by omega)] | rw [ints_at0 (by omega)] | rw [ints_at' (by omega) (by omega)] | refine G1 ?_ | refine ⟨_, _, RIn_mk, ?_⟩ | refine ⟨_, _, RBit_mk h0 h1, ?_⟩ | fail) <;> conv => whnf)
  · refine ⟨.inl rfl, ?_⟩
    conv => whnf
    refine ⟨[], ⟨rfl, trivial⟩, ?_, rfl, rfl⟩
    conv => whnf
    left
    conv => lhs; whnf
    refine congrArg AV.bool ?_
    exact (and_bit_ne.1 (by rw [← and_bit hX h0 h1]; assumption)).symm
  · refine ⟨.inl rfl, ?_⟩
    conv => whnf
    refine ⟨[], ⟨rfl, trivial⟩, ?_, rfl, rfl⟩
    conv => whnf
    left
    conv => lhs; whnf
    refine congrArg AV.bool ?_
    symm
    cases hb2 : X.testBit i.toNat with
    | false => rfl
    | true => exact absurd (by rw [← and_bit hX h0 h1]; assumption) (and_bit_ne.2 hb2)
theorem or_val {X Y : Nat} (hX : X < 2 ^ 62) (hY : Y < 2 ^ 62) : IntKind.i64.wrap (BitVec.ofInt IntKind.i64.bits ((X : Nat) : Int) ||| BitVec.ofInt IntKind.i64.bits ((Y : Nat) : Int)).toNat = ((X ||| Y : Nat) : Int) := by
  have hbits : IntKind.i64.bits = 64 := rfl
  have h := Nat.or_lt_two_pow hX hY
  rw [hbits, BitVec.toNat_or, toNat_ofInt64 (by omega) (by omega), toNat_ofInt64 (by omega) (by omega)]
  simp only [Int.toNat_natCast]
  exact IntWalk.i64_in _ (by omega)
theorem or_bit {X : Nat} {i : Int} (hX : X < 2 ^ 31) (h0 : 0 ≤ i) (h1 : i ≤ 30) :
    IntKind.i64.wrap (BitVec.ofInt IntKind.i64.bits ((X : Nat) : Int) ||| BitVec.ofInt IntKind.i64.bits ((2 ^ i.toNat : Nat) : Int)).toNat = ((X ||| 2 ^ i.toNat : Nat) : Int) :=
  or_val (by omega) (Nat.pow_lt_pow_right (by decide) (by omega))
def c_spec_l5Less : ICode := (.seq (.reg [O1 2 (.box 4) 0, O1 3 (.box 4) 1, Ol 4 .mv [cb false]]) (.seq (.reg [O1 5 (.fadr 0) 2, O1 6 .ld1 5, O1 7 (.fadr 1) 2, O1 8 .ld1 7, O1 9 (.fadr 2) 2, O1 10 .ld1 9, O3 11 (.bld [(.int .i64 0), (.int .i64 0), (.int .i64 0), (.bool false)] [(0, 1), (1, 1), (2, 1)]) 6 8 10, O1 12 (.fadr 0) 3, O1 13 .ld1 12, O1 14 (.fadr 1) 3, O1 15 .ld1 14, O1 16 (.fadr 2) 3, O1 17 .ld1 16, O3 18 (.bld [(.int .i64 0), (.int .i64 0), (.int .i64 0), (.bool false)] [(0, 1), (1, 1), (2, 1)]) 13 15 17, O2 19 (.call 117) 11 18, O1 4 .mv 19]) .ret))
theorem b_spec_l5Less : Body Try.prog 155 20 c_spec_l5Less [(.t 4)] := body_mk Try.func155 (by kernel_rfl) (by decide)
def c_spec_GenOk : ICode := (.seq (.reg [O1 1 (.box 5) 0, Ol 2 .mv [cb false]]) (.seq (.seq (.drw [O1 5 (.fadr 0) 1, O1 6 .ld1 5, Ol 7 (.call 114) [.t 6, ci 1, ci 8], O1 8 .not 7, O1 9 .mv 8, Og 10 (.fadr 1) [.t 1] 9 false, Og 11 .ld1 [.t 10] 9 false, Og 12 (.call 114) [.t 11, ci 0, ci 31] 9 false, Og 13 .not [.t 12] 9 false, Ol 14 .pick [.t 9, cb true, .t 13], O1 15 .mv 14, Og 16 (.fadr 2) [.t 1] 15 false, Og 17 .ld1 [.t 16] 15 false, Og 18 (.fadr 1) [.t 1] 15 false, Og 19 .ld1 [.t 18] 15 false, Og 20 (.bin .shl) [ci 1, .t 19] 15 false, Og 21 (.bin .sub) [.t 20, ci 1] 15 false, Og 22 (.call 115) [.t 17, .t 21] 15 false, Og 23 .not [.t 22] 15 false, Ol 24 .pick [.t 15, cb true, .t 23], O1 25 .mv 24, Og 26 (.fadr 3) [.t 1] 25 false, Og 27 .ld1 [.t 26] 25 false, Og 28 (.call 114) [.t 27, ci 0, ci 4] 25 false, Og 29 .not [.t 28] 25 false, Ol 30 .pick [.t 25, cb true, .t 29], O1 31 .mv 30, Og 32 (.fadr 4) [.t 1] 31 false, Og 33 .ld1 [.t 32] 31 false, Og 34 .len [.t 33] 31 false, Og 35 (.bin .gtr) [.t 34, ci 2000] 31 false, Ol 36 .pick [.t 31, cb true, .t 35]] (unB [0, 1, 3, 7, 15, 31, 63, 127, 255, 511, 1023, 2047, 4095, 2047, 10239, 26623, 59391, 131071, 262143, 524287, 1048575, 2097151, 4194303, 8388607, 16777215, 33554431, 67108863, 134217727, 268435455, 536870911, 1073741823, 2147483647] 0) true true) (.cond (.t 36) (.seq (.reg [Ol 2 .mv [cb false]]) .ret) .skip)) (.seq (.seq (.reg [Ol 3 .mv [ci 0]]) (.block 0 (.loop (.seq (.seq (.reg [O1 37 .mv 3, O1 38 (.fadr 4) 1, O1 39 .ld1 38, O1 40 .len 39, O2 41 (.bin .lss) 37 40]) (.cond (.t 41) .skip (.exit 0))) (.seq (.block 1 (.seq (.reg [O1 44 (.fadr 4) 1, O1 45 .ld1 44, O1 46 .mv 3, O2 47 (.iadr 4) 45 46, O1 48 (.ldn 4) 47, O0 4 (.alc [(.int .i64 0), (.int .i64 0), (.int .i64 0), (.int .i64 0)]), S2 (.st 4) 4 48]) (.seq (.drw [O1 49 (.fadr 0) 4, O1 50 .ld1 49, O1 51 (.fadr 1) 1, O1 52 .ld1 51, O2 53 (.call 116) 50 52, O1 54 .not 53, O1 55 .mv 54, Og 56 (.fadr 2) [.t 4] 55 false, Og 57 .ld1 [.t 56] 55 false, Og 58 (.fadr 1) [.t 1] 55 false, Og 59 .ld1 [.t 58] 55 false, Og 60 (.call 116) [.t 57, .t 59] 55 false, Og 61 .not [.t 60] 55 false, Ol 62 .pick [.t 55, cb true, .t 61], O1 63 .mv 62, Og 64 (.fadr 1) [.t 4] 63 false, Og 65 .ld1 [.t 64] 63 false, Og 66 (.fadr 0) [.t 1] 63 false, Og 67 .ld1 [.t 66] 63 false, Og 68 (.bin .sub) [.t 67, ci 1] 63 false, Og 69 (.call 114) [.t 65, ci 0, .t 68] 63 false, Og 70 .not [.t 69] 63 false, Ol 71 .pick [.t 63, cb true, .t 70], O1 72 .mv 71, Og 73 (.fadr 3) [.t 4] 72 false, Og 74 .ld1 [.t 73] 72 false, Og 75 (.fadr 3) [.t 1] 72 false, Og 76 .ld1 [.t 75] 72 false, Og 77 (.bin .shl) [ci 1, .t 76] 72 false, Og 78 (.bin .sub) [.t 77, ci 1] 72 false, Og 79 (.call 115) [.t 74, .t 78] 72 false, Og 80 .not [.t 79] 72 false, Ol 81 .pick [.t 72, cb true, .t 80], O1 82 .mv 81, Og 83 .mv [.t 3] 82 false, Og 84 (.bin .gtr) [.t 83, ci 0] 82 false, Og 85 .mv [.t 84] 82 false, Og 86 (.fadr 4) [.t 1] 85 true, Og 87 .ld1 [.t 86] 85 true, Og 88 .mv [.t 3] 85 true, Og 89 (.bin .sub) [.t 88, ci 1] 85 true, Og 90 (.iadr 4) [.t 87, .t 89] 85 true, Og 91 (.ldn 4) [.t 90] 85 true, Og 92 (.ldn 4) [.t 4] 85 true, Og 93 (.call 155) [.t 91, .t 92] 85 true, Og 94 .not [.t 93] 85 true, Og 95 .pick [.t 85, .t 94, cb false] 82 false, Ol 96 .pick [.t 82, cb true, .t 95]] (unB [0, 1, 0, 4, 15, 31, 63, 127, 255, 127, 639, 2047, 4095, 8191, 16383, 32767, 65535, 32767, 163839, 425983, 1048575, 2097151, 4194303, 8388607, 16777215, 33554431, 16777215, 83886079, 218103807, 486539263, 1073741823, 2147483647, 4294967295, 8589934591, 17179869183, 34359738367, 68719476735, 137438953471, 274877906943, 137438953471, 687194767359, 2199023255551, 4398046511103, 137438953471, 17592186044415, 35184372088831, 70368744177663, 140737488355327] 0) true true) (.cond (.t 96) (.seq (.reg [Ol 2 .mv [cb false]]) .ret) .skip)))) (.reg [O1 42 .mv 3, Ol 43 (.bin .add) [.t 42, ci 1], O1 3 .mv 43])))))) (.seq (.reg [Ol 2 .mv [cb true]]) .ret))))
theorem b_spec_GenOk : Body Try.prog 69 97 c_spec_GenOk [(.t 2)] := body_mk Try.func69 (by kernel_rfl) (by decide)
structure GEdgeD where
  src : Int
  letter : Int
  dst : Int
  marks : Int
  deriving Inhabited, DecidableEq
structure GenD where
  letters : Int
  states : Int
  start : Int
  sets : Int
  edges : List GEdgeD
  deriving Inhabited, DecidableEq
def gedgeRow (x : GEdgeD) : List AV := [.int .i64 x.src, .int .i64 x.letter, .int .i64 x.dst, .int .i64 x.marks]
def gedgeRows (l : List GEdgeD) : List (List AV) := l.map gedgeRow
@[simp] theorem length_gedgeRows (l : List GEdgeD) : (gedgeRows l).length = l.length := by simp [gedgeRows]
def genRow (g : GenD) : List AV := [.int .i64 g.letters, .int .i64 g.states, .int .i64 g.start, .int .i64 g.sets, .val (gedgeRows g.edges)]
theorem gedge_at {l : List GEdgeD} {i : Nat} (h : i < l.length) : (gedgeRows l)[((i : Nat) : Int).toNat]? = some (gedgeRow (l.getD i default)) := row_at h
theorem gedge_prev {l : List GEdgeD} {i : Nat} (h : i ≤ l.length) (h0 : 0 < i) : (gedgeRows l)[(((i : Nat) : Int) - 1).toNat]? = some (gedgeRow (l.getD (i - 1) default)) := row_prev h h0
theorem gedgeRows_nov (l : List GEdgeD) : (gedgeRows l).all AV.novs = true := by simp [gedgeRows, gedgeRow, AV.novs, AV.nov]
def gLess (x y : GEdgeD) : Bool := edgeLess ⟨x.src, x.letter, x.dst, false⟩ ⟨y.src, y.letter, y.dst, false⟩
def GIn (g : GenD) (e : GEdgeD) : Prop := (0 ≤ e.src ∧ e.src ≤ g.states - 1) ∧ (0 ≤ e.dst ∧ e.dst ≤ g.states - 1) ∧ (0 ≤ e.letter ∧ e.letter ≤ g.letters - 1) ∧ (0 ≤ e.marks ∧ e.marks ≤ 2147483647 ∧ e.marks < 2 ^ g.sets.toNat)
instance (g : GenD) (e : GEdgeD) : Decidable (GIn g e) := by unfold GIn; infer_instance
def GAt (g : GenD) (i : Nat) : Prop := GIn g (g.edges.getD i default) ∧ (0 < i → gLess (g.edges.getD (i - 1) default) (g.edges.getD i default) = true)
instance (g : GenD) (i : Nat) : Decidable (GAt g i) := by unfold GAt; infer_instance
def GenOk (g : GenD) : Prop := HeadOk g.letters g.states g.start ∧ (0 ≤ g.sets ∧ g.sets ≤ 4) ∧ g.edges.length ≤ 2000 ∧ ∀ i, i < g.edges.length → GAt g i
instance (g : GenD) : Decidable (GenOk g) := by unfold GenOk; infer_instance
def RLess5 (xs : List AV) (r : AV) (objs : List AObj) : Prop := ∃ x y, xs = [.agg (gedgeRow x), .agg (gedgeRow y)] ∧ r = .bool (gLess x y) ∧ objs = []
theorem RLess5_mk {x y : GEdgeD} : RLess5 [.agg (gedgeRow x), .agg (gedgeRow y)] (.bool (gLess x y)) [] := ⟨x, y, rfl, rfl, rfl⟩
theorem s_spec_l5Less : PureSound Try.prog 155 RLess5 := by
  have hR : Rely Try.prog (ctxOf [(117, .pure RLess)]) := rely_cons b_spec_l4Less.has s_spec_l4Less (rely_nil mixed)
  refine pure_of_aw b_spec_l5Less ?_
  rintro xs r objs ⟨x, y, rfl, rfl, rfl⟩ -
  refine ⟨by simp, vc2_sound hR _ _ _ _ _ ?_⟩
  conv => whnf
  repeat' ((first | contradiction | (refine And.intro (fun hb => ?_) (fun hb => ?_) <;> first | contradiction | ((try simp only [SB, reduceCtorEq] at hb); try (exfalso; first | contradiction | omega))) | refine G2 ?_ | rw [ints_at (by omega)] | rw [ints_at0 (by omega)] | rw [ints_at' (by omega) (by omega)] | refine G1 ?_ | refine ⟨_, _, RLess_mk (x := ⟨x.src, x.letter, x.dst, false⟩) (y := ⟨y.src, y.letter, y.dst, false⟩), ?_⟩ | fail) <;> conv => whnf)
  all_goals
    refine ⟨.inl rfl, ?_⟩
    conv => whnf
    refine ⟨[], ⟨rfl, trivial⟩, ?_, rfl, rfl⟩
    conv => whnf
    left
    conv => lhs; whnf
    refine congrArg AV.bool ?_
    symm
    assumption
def RGenOk (xs : List AV) (r : AV) (objs : List AObj) : Prop := ∃ g, xs = [.agg (genRow g)] ∧ r = .bool (decide (GenOk g)) ∧ objs = []
theorem RGenOk_mk {g : GenD} : RGenOk [.agg (genRow g)] (.bool (decide (GenOk g))) [] := ⟨g, rfl, rfl, rfl⟩
set_option maxHeartbeats 2000000 in
theorem s_spec_GenOk : PureSound Try.prog 69 RGenOk := by
  have hR : Rely Try.prog (ctxOf [(114, .pure RIn), (115, .pure RSetIn), (116, .pure RState), (155, .pure RLess5)]) :=
    rely_cons b_spec_l1In.has s_spec_l1In (rely_cons b_spec_SetIn.has s_spec_SetIn (rely_cons b_spec_l4State.has s_spec_l4State (rely_cons b_spec_l5Less.has s_spec_l5Less (rely_nil mixed))))
  refine pure_of_aw b_spec_GenOk ?_
  rintro xs r objs ⟨g, rfl, rfl, rfl⟩ -
  have hle := length_gedgeRows g.edges
  refine ⟨by simp, vc2_sound hR _ _ _ _ _ ?_⟩
  conv => whnf
  repeat' ((first | contradiction | (refine And.intro (fun hb => ?_) (fun hb => ?_) <;> first | contradiction | ((try simp only [SB, reduceCtorEq] at hb); try (exfalso; first | contradiction | omega))) | refine G2 ?_ | rw [ints_at (by omega)] | rw [ints_at0 (by omega)] | rw [ints_at' (by omega) (by omega)] | refine G1 ?_ | refine ⟨_, _, RIn_mk, ?_⟩ | refine ⟨_, mask_in (by omega) (by omega), ?_⟩ | refine ⟨_, _, RSetIn_mk (by omega) (by omega), ?_⟩ | fail) <;> conv => whnf)
  rotate_left
  · have hset : 0 ≤ g.sets ∧ g.sets ≤ 4 := by assumption
    have hst : 0 ≤ g.states ∧ g.states ≤ 31 := by assumption
    have hlt : 1 ≤ g.letters ∧ g.letters ≤ 8 := by assumption
    refine Lp.intro (α := Nat) (fun i => i ≤ g.edges.length ∧ ∀ j, j < i → GAt g j) (fun i => g.edges.length - i) (fun i => [(1, .rptr (genRow g) 0), (3, .int .i64 i)]) (fun _ => []) ?_ ?_
    · refine ⟨0, ⟨by omega, by omega⟩, [], rfl, rfl, trivial, ?_⟩
      exact ⟨.inr rfl, .inl rfl, trivial⟩
    · rintro i ⟨hi, hall⟩
      refine vc2_sound hR _ _ _ _ _ ?_
      conv => whnf
      repeat' ((first | contradiction | (refine And.intro (fun hb => ?_) (fun hb => ?_) <;> first | contradiction | ((try simp only [SB, reduceCtorEq] at hb); try (exfalso; first | contradiction | omega))) | refine G2 ?_ | rw [ints_at (by omega)] | rw [ints_at0 (by omega)] | rw [ints_at' (by omega) (by omega)] | refine G1 ?_ | rw [gedge_at (by omega)] | rw [gedge_prev (by omega) (by omega)] | refine ⟨_, _, RState_mk (by omega) (by omega), ?_⟩ | refine ⟨_, _, RIn_mk, ?_⟩ | refine ⟨_, mask_in (by omega) (by omega), ?_⟩ | refine ⟨_, _, RSetIn_mk (by omega) (by omega), ?_⟩ | refine ⟨_, _, RLess5_mk (x := g.edges.getD (i - 1) default) (y := g.edges.getD i default), ?_⟩ | fail) <;> conv => whnf)
      all_goals first
        | (refine ⟨i + 1, ⟨by omega, fun j hj => ?_⟩, by omega, [], rfl, rfl, trivial, ?_⟩
           · by_cases hji : j = i
             · subst hji
               refine ⟨⟨by assumption, by assumption, by assumption, by assumption⟩, fun _ => ?_⟩
               first | assumption | omega
             · exact hall j (by omega)
           · exact ⟨.inl rfl, .inl rfl, trivial⟩)
        | (refine ⟨.inl rfl, ?_⟩
           conv => whnf
           refine ⟨[], ⟨rfl, trivial⟩, ?_, rfl, rfl⟩
           conv => whnf
           left
           conv => lhs; whnf
           refine congrArg AV.bool (decide_eq_true ?_).symm
           exact ⟨⟨by assumption, by assumption, by assumption⟩, hset, by omega, fun j hj => hall j (by omega)⟩)
        | (refine ⟨.inl rfl, ?_⟩
           conv => whnf
           refine ⟨[], ⟨rfl, trivial⟩, ?_, rfl, rfl⟩
           conv => whnf
           left
           conv => lhs; whnf
           refine congrArg AV.bool (decide_eq_false ?_).symm
           rintro ⟨_, _, _, g5⟩
           obtain ⟨⟨k1, k2, k3, k4⟩, k5⟩ := g5 i (by omega)
           first
           | contradiction
           | (have := k5 (by omega); simp_all))
  all_goals
    refine ⟨.inl rfl, ?_⟩
    conv => whnf
    refine ⟨[], ⟨rfl, trivial⟩, ?_, rfl, rfl⟩
    conv => whnf
    left
    conv => lhs; whnf
    refine congrArg AV.bool (decide_eq_false ?_).symm
    rintro ⟨⟨g1, g2, g3⟩, g4, g5, g6⟩
    omega
end Go.Proofs.Ythanhknkoikbfaa.Ct
namespace Go.Proofs.Ythanhknkoikbfaa.Av
open Go
def AV.sealed : AV → Bool
  | .own _ _ => true
  | v => v.free
inductive Turn : Heap → Nat → Heap → Nat → Prop where
  | refl (h : Heap) (n : Nat) : Turn h n h n
  | fold {h h2 : Heap} {n n2 : Nat} (k m i j z y : Nat) (rows row rs) (ho : h k = some (.arx z rows)) (hm : h m = some (.arr y rs)) (hk : m ≠ k) (hr : rows[i]? = some row) (len : Nat) (hl : rs.length = len) (hc : row[j]? = some (.ref m 0 len))
      (t : Turn ((h.del m).set k (.arx z (rows.set i (row.set j (.own y rs))))) n h2 n2) : Turn h n h2 n2
  | nil {h h2 : Heap} {n n2 : Nat} (k i j z y : Nat) (rows row) (ho : h k = some (.arx z rows)) (hr : rows[i]? = some row) (hc : row[j]? = some .snil)
      (t : Turn (h.set k (.arx z (rows.set i (row.set j (.own y []))))) n h2 n2) : Turn h n h2 n2
  | lax {h h2 : Heap} {n n2 : Nat} (k z : Nat) (rows) (ho : h k = some (.arr z rows) ∨ h k = some (.nst z rows)) (t : Turn (h.set k (.arx z rows)) n h2 n2) : Turn h n h2 n2
  | clos {h h2 : Heap} {n n2 : Nat} (k z : Nat) (rows) (ho : h k = some (.arx z rows)) (hs : ∀ row ∈ rows, ∀ c ∈ row, c.sealed = true) (t : Turn (h.set k (.nst z rows)) n h2 n2) : Turn h n h2 n2
  | unfold {h h2 : Heap} {n n2 : Nat} (k i j z y : Nat) (rows row rs) (ho : h k = some (.arx z rows)) (hr : rows[i]? = some row) (hc : row[j]? = some (.own y rs)) (len : Nat) (hl : rs.length = len)
      (t : Turn ((h.set k (.arx z (rows.set i (row.set j (.ref n 0 len))))).set n (.arr y rs)) (n + 1) h2 n2) : Turn h n h2 n2
section
variable {P : Program} {w0 : World} {pass own0 : Nat → Prop} {π π' : Pl} {e : Env} {h h2 : Heap} {n n' n2 : Nat} {a : Act} {w : World}
theorem NstAt.swap (m : Mono own0 π π' n n' w w) {k i j : Nat} {p : Place} {z : Nat} {rows : List (List AV)} {row : List AV} {x x' : AV} (h : NstAt w (ownOf own0 π) π n k p z rows)
    (hh : ∀ b i' j', (i', j') ≠ (i, j) → π.hid b = some (k, i', j') → π'.hid b = some (k, i', j')) (hr : rows[i]? = some row) (hc : row[j]? = some x)
    (hx : ∀ b cur e u, p.blk = some b → w.heap[b]? = some (.cells cur e (0, 0)) → cur[i * z + j]? = some u → CellAt w (ownOf own0 π) π n k i j x u → CellAt w (ownOf own0 π') π' n' k i j x' u) :
    NstAt w (ownOf own0 π') π' n' k p z (rows.set i (row.set j x')) := by
  obtain ⟨h0, h1, h2⟩ := h
  have hil := (List.getElem?_eq_some_iff.1 hr).1
  have hjl := (List.getElem?_eq_some_iff.1 hc).1
  refine ⟨h0, fun i' row' hr' => ?_, ?_⟩
  · rw [List.getElem?_set] at hr'
    by_cases hi : i = i'
    · subst hi
      rw [if_pos rfl, if_pos hil] at hr'
      cases hr'; simpa using h1 i row hr
    · rw [if_neg hi] at hr'
      exact h1 i' row' hr'
  · cases hb : p.blk with
    | none => simp only [hb] at h2; subst h2; simp at hil
    | some b =>
      simp only [hb] at h2
      obtain ⟨cur, e, g1, g2, g3, g4, g5⟩ := h2
      refine ⟨cur, e, g1, g2, by simpa using g3, g4, fun i' j' row' x0 u a1 a2 a3 => ?_⟩
      have old : ∀ i' j' row' x0, (i', j') ≠ (i, j) → rows[i']? = some row' → row'[j']? = some x0 → cur[i' * z + j']? = some u → CellAt w (ownOf own0 π') π' n' k i' j' x0 u :=
        fun i' j' row' x0 hne a1 a2 a3 => (g5 i' j' row' x0 u a1 a2 a3).mono m fun b hb => ⟨rfl, hh b i' j' hne hb⟩
      rw [List.getElem?_set] at a1
      by_cases hi : i = i'
      · subst hi
        rw [if_pos rfl, if_pos hil] at a1
        cases a1
        rw [List.getElem?_set] at a2
        by_cases hj : j = j'
        · subst hj
          rw [if_pos rfl, if_pos hjl] at a2
          cases a2
          exact hx b cur e u hb g1 a3 (g5 i j row x u hr hc a3)
        · rw [if_neg hj] at a2
          exact old i j' row x0 (by simp; omega) hr a2 a3
      · rw [if_neg hi] at a1
        exact old i' j' row' x0 (by simp; omega) a1 a2 a3
def plFold (π : Pl) (k m i j : Nat) : Pl where
  at' id := if id = m then none else π id
  hid b := if (π m).bind Place.blk = some b then some (k, i, j) else π.hid b
theorem plFold_at (π : Pl) (k m i j id : Nat) : plFold π k m i j id = if id = m then none else π id := rfl
theorem plFold_hid (π : Pl) (k m i j b : Nat) : (plFold π k m i j).hid b = if (π m).bind Place.blk = some b then some (k, i, j) else π.hid b := rfl
def plUn (π : Pl) (n : Nat) (p : Place) : Pl where
  at' id := if id = n then some p else π id
  hid b := if p.blk = some b then none else π.hid b
theorem plUn_at (π : Pl) (n : Nat) (p : Place) (id : Nat) : plUn π n p id = if id = n then some p else π id := rfl
theorem plUn_hid (π : Pl) (n : Nat) (p : Place) (b : Nat) : (plUn π n p).hid b = if p.blk = some b then none else π.hid b := rfl
theorem go_self (hs : HSim own0 π h n w) (fr : Fr w0 pass π w) {k : Nat} {o o' : AObj} (ho : h k = some o) (hx : ∀ p, π k = some p → ObjAt w (ownOf own0 π) π n k p o → ObjAt w (ownOf own0 π) π n k p o') :
    Go1 w0 pass own0 π n w π (h.set k o') n w := by
  refine ⟨.refl fun _ _ hp => (hs.lt hp).1, ⟨fun id hid => ?_, fun id o1 hid => ?_, hs.inj, hs.sep, hs.old, hs.hid⟩, fr⟩
  · unfold Heap.set at hid
    split at hid
    · cases hid
    · exact hs.dom id hid
  · unfold Heap.set at hid
    split at hid
    · rename_i he; subst he; cases hid
      obtain ⟨g1, p, g2, g3⟩ := hs.obj _ _ ho
      exact ⟨g1, p, g2, hx p g2 g3⟩
    · exact hs.obj id o1 hid
theorem go_fold (hs : HSim own0 π h n w) (fr : Fr w0 pass π w) {k m i j z y : Nat} {rows rs : List (List AV)} {row : List AV} (ho : h k = some (.arx z rows)) (hm : h m = some (.arr y rs)) (hk : m ≠ k)
    (hr : rows[i]? = some row) (hc : row[j]? = some (.ref m 0 rs.length)) :
    Go1 w0 pass own0 π n w (plFold π k m i j) ((h.del m).set k (.arx z (rows.set i (row.set j (.own y rs))))) n w := by
  obtain ⟨gm, q, hq, hqo⟩ := hs.obj m _ hm
  obtain ⟨gk, p, hp, hpo⟩ := hs.obj k _ ho
  have hid0 : ∀ b v, π.hid b = some v → (plFold π k m i j).hid b = some v := by
    intro b v hb
    rw [plFold_hid, if_neg, hb]
    rw [hq]
    exact (hs.hid b v hb).2.2.2 m q hq
  have hidb : ∀ b, q.blk = some b → (plFold π k m i j).hid b = some (k, i, j) := by
    intro b hb
    rw [plFold_hid, if_pos]
    rw [hq]; exact hb
  have hidc : ∀ b v, (plFold π k m i j).hid b = some v → (q.blk = some b ∧ v = (k, i, j)) ∨ π.hid b = some v := by
    intro b v hb
    rw [plFold_hid] at hb
    split at hb
    · rename_i h1
      rw [hq] at h1
      cases hb; exact .inl ⟨h1, rfl⟩
    · exact .inr hb
  have hat : ∀ id r, plFold π k m i j id = some r → id ≠ m ∧ π id = some r := by
    intro id r h1
    rw [plFold_at] at h1
    split at h1
    · cases h1
    · rename_i hne; exact ⟨hne, h1⟩
  have mono : Mono own0 π (plFold π k m i j) n n w w := by
    refine ⟨Nat.le_refl _, fun b hb hno => ⟨rfl, ?_⟩, fun id r h1 => ⟨?_, (hs.lt h1).1⟩, fun id h1 _ => ?_, Nat.le_refl _, rfl, ⟨rfl, Nat.le_refl _⟩, rfl⟩
    · rintro ((h1 | h1) | ⟨id, r, h1, h2⟩)
      · exact hno (.inl (.inl h1))
      · obtain ⟨v, hv⟩ := Option.isSome_iff_exists.1 h1
        rcases hidc b v hv with ⟨h3, _⟩ | h3
        · exact hno (.inr ⟨m, q, hq, h3⟩)
        · exact hno (.inl (.inr (by rw [h3]; rfl)))
      · exact hno (.inr ⟨id, r, (hat id r h1).2, h2⟩)
    · rw [plFold_at]
      split
      · exact .inr rfl
      · exact .inl h1
    · rw [plFold_at]
      split
      · rfl
      · exact h1
  refine ⟨mono, ⟨fun id hid => ?_, fun id o1 hid => ?_, fun id id' r r' b h1 h2 => hs.inj id id' r r' b (hat _ _ h1).2 (hat _ _ h2).2, fun id r b h1 => hs.sep id r b (hat _ _ h1).2, hs.old, fun b v hb => ?_⟩,
    ⟨fr.os, fr.tape, fr.output, fr.size, fr.kept, fun id r b h1 => fr.blk id r b (hat _ _ h1).2, fun b v hb => ?_⟩⟩
  · unfold Heap.set at hid
    split at hid
    · cases hid
    · unfold Heap.del at hid
      rw [plFold_at]
      split
      · rfl
      · rename_i hne; rw [if_neg hne] at hid; exact hs.dom id hid
  · unfold Heap.set at hid
    split at hid
    · rename_i he; subst he; cases hid
      refine ⟨gk, p, by rw [plFold_at, if_neg (Ne.symm hk)]; exact hp, ?_⟩
      refine NstAt.swap mono hpo (fun b i' j' _ hb => hid0 b _ hb) hr hc (fun _ _ _ u _ _ _ hu => ?_)
      have hu : Rel w (ownOf own0 π) π n (.ref m 0 rs.length) u := hu
      show OwnAt _ _ _ _ _ _ _ _ _ _
      generalize hl : rs.length = len at hu
      cases hu with
      | refLive _ _ _ b cap p' hp' hb h1 h2 =>
        rw [hq] at hp'; cases hp'
        refine .inr ⟨q, b, cap, hb, hidb b hb, by rw [Nat.zero_mul, hl], by omega, by omega, ?_⟩
        exact ArrAt.mono mono hqo (fun _ _ => rfl)
      | refEnd => exact .inl ⟨List.length_eq_zero_iff.1 hl, _, rfl⟩
      | refNil => exact .inl ⟨List.length_eq_zero_iff.1 hl, _, rfl⟩
      | refDead _ _ _ _ _ hd _ => rw [hq] at hd; cases hd
    · rename_i hne
      unfold Heap.del at hid
      split at hid
      · cases hid
      · rename_i hne2
        obtain ⟨g1, r, g2, g3⟩ := hs.obj id o1 hid
        exact ⟨g1, r, by rw [plFold_at, if_neg hne2]; exact g2, g3.mono mono (fun _ _ => rfl) (fun b i' j' hb => ⟨rfl, hid0 b _ hb⟩)⟩
  · rcases hidc b v hb with ⟨h3, rfl⟩ | h3
    · refine ⟨hs.sep m q b hq h3, hs.blk_lt hq h3, gk, fun id r h1 h2 => ?_⟩
      exact (hat _ _ h1).1 (hs.inj id m r q b (hat _ _ h1).2 hq h2 h3)
    · obtain ⟨g1, g2, g3, g4⟩ := hs.hid b v h3
      exact ⟨g1, g2, g3, fun id r h1 => g4 id r (hat _ _ h1).2⟩
  · rcases hidc b v hb with ⟨h3, _⟩ | h3
    · exact fr.blk m q b hq h3
    · exact fr.hid b v h3
theorem go_unfold (hs : HSim own0 π h n w) (fr : Fr w0 pass π w) {k i j z y : Nat} {rows rs : List (List AV)} {row : List AV} (ho : h k = some (.arx z rows))
    (hr : rows[i]? = some row) (hc : row[j]? = some (.own y rs)) :
    ∃ π', Go1 w0 pass own0 π n w π' ((h.set k (.arx z (rows.set i (row.set j (.ref n 0 rs.length))))).set n (.arr y rs)) (n + 1) w := by
  obtain ⟨gk, p, hp, hpo⟩ := hs.obj k _ ho
  obtain ⟨bp, u0, hbp, hcell0, hu0⟩ := nst_at hpo hr hc
  have hu0 : OwnAt w (ownOf own0 π) π n k i j y rs u0 := hu0
  obtain ⟨q, hq1, hq2, hq3⟩ : ∃ q : Place, (∀ π' : Pl, Mono own0 π π' n (n + 1) w w → ArrAt w (ownOf own0 π') π' (n + 1) q y rs) ∧
      (∀ b, q.blk = some b → π.hid b = some (k, i, j)) ∧ ∀ π' : Pl, π' n = some q → Rel w (ownOf own0 π') π' (n + 1) (.ref n 0 rs.length) u0 := by
    rcases hu0 with ⟨rfl, ad, rfl⟩ | ⟨q, b, cap, h1, h2, rfl, h4, h5, h6⟩
    · refine ⟨⟨none, y, 0⟩, fun π' m => ⟨rfl, fun i row h => by simp at h, rfl⟩, (fun b hb => by cases hb), fun π' hq => ?_⟩
      exact .refNil n _ ⟨none, y, 0⟩ hq rfl
    · refine ⟨q, fun π' m => h6.mono m (fun _ _ => rfl), fun b' hb' => by rw [h1] at hb'; cases hb'; exact h2, fun π' hq => ?_⟩
      have := Rel.refLive (w := w) (own := ownOf own0 π') (N := n + 1) n 0 rs.length b cap q hq h1 h4 (by omega)
      rwa [Nat.zero_mul] at this
  have hidc : ∀ b v, (plUn π n q).hid b = some v → q.blk ≠ some b ∧ π.hid b = some v := by
    intro b v hb
    rw [plUn_hid] at hb
    split at hb
    · cases hb
    · rename_i h1; exact ⟨h1, hb⟩
  have hid0 : ∀ b v, v ≠ (k, i, j) → π.hid b = some v → (plUn π n q).hid b = some v := by
    intro b v hv hb
    rw [plUn_hid, if_neg, hb]
    intro h1
    have := hq2 b h1
    rw [hb] at this; cases this; exact hv rfl
  have hat : ∀ id r, plUn π n q id = some r → (id = n ∧ r = q) ∨ (id ≠ n ∧ π id = some r) := by
    intro id r h1
    rw [plUn_at] at h1
    split at h1
    · rename_i he; cases h1; exact .inl ⟨he, rfl⟩
    · rename_i he; exact .inr ⟨he, h1⟩
  have hlt : ∀ id r, π id = some r → id ≠ n := fun id r h1 => Nat.ne_of_lt (hs.lt h1).1
  have mono : Mono own0 π (plUn π n q) n (n + 1) w w := by
    refine ⟨Nat.le_refl _, fun b hb hno => ⟨rfl, ?_⟩, fun id r h1 => ⟨?_, (hs.lt h1).1⟩, fun id h1 hl => ?_, Nat.le_succ _, rfl, ⟨rfl, Nat.le_refl _⟩, rfl⟩
    · rintro ((h1 | h1) | ⟨id, r, h1, h2⟩)
      · exact hno (.inl (.inl h1))
      · obtain ⟨v, hv⟩ := Option.isSome_iff_exists.1 h1
        exact hno (.inl (.inr (by rw [(hidc b v hv).2]; rfl)))
      · rcases hat id r h1 with ⟨_, rfl⟩ | ⟨_, h3⟩
        · exact hno (.inl (.inr (by rw [hq2 b h2]; rfl)))
        · exact hno (.inr ⟨id, r, h3, h2⟩)
    · rw [plUn_at, if_neg (hlt id r h1)]
      exact .inl h1
    · rw [plUn_at, if_neg (by omega)]
      exact h1
  have hkn : k ≠ n := Nat.ne_of_lt gk
  refine ⟨plUn π n q, mono, ⟨fun id hid => ?_, fun id o1 hid => ?_, fun id id' r r' b h1 h2 h3 h4 => ?_, fun id r b h1 h2 => ?_, hs.old, fun b v hb => ?_⟩,
    ⟨fr.os, fr.tape, fr.output, fr.size, fr.kept, fun id r b h1 h2 => ?_, fun b v hb => fr.hid b v (hidc b v hb).2⟩⟩
  · unfold Heap.set at hid
    split at hid
    · cases hid
    · rename_i hne
      split at hid
      · cases hid
      · rw [plUn_at, if_neg hne]; exact hs.dom id hid
  · unfold Heap.set at hid
    split at hid
    · rename_i he; subst he; cases hid
      exact ⟨Nat.lt_succ_self _, q, by rw [plUn_at, if_pos rfl], hq1 _ mono⟩
    · rename_i hne
      split at hid
      · rename_i he; subst he; cases hid
        refine ⟨Nat.lt_succ_of_lt gk, p, by rw [plUn_at, if_neg hkn]; exact hp, ?_⟩
        refine NstAt.swap mono hpo (fun b i' j' hne' hb => hid0 b _ (by intro hh; cases hh; exact hne' rfl) hb) hr hc (fun b cur e u h1 h2 h3 _ => ?_)
        rw [hbp] at h1; cases h1
        rw [hpo.1, cell_of_row w bp _ cur e (0, 0) h2, h3] at hcell0
        cases hcell0
        exact hq3 _ (by rw [plUn_at, if_pos rfl])
      · rename_i hne2
        obtain ⟨g1, r, g2, g3⟩ := hs.obj id o1 hid
        exact ⟨Nat.lt_succ_of_lt g1, r, by rw [plUn_at, if_neg hne]; exact g2, g3.mono mono (fun _ _ => rfl) (fun b i' j' hb => ⟨rfl, hid0 b _ (by intro hh; cases hh; exact hne2 rfl) hb⟩)⟩
  · rcases hat id r h1 with ⟨rfl, rfl⟩ | ⟨g1, g2⟩
    · rcases hat id' r' h2 with ⟨rfl, rfl⟩ | ⟨g3, g4⟩
      · rfl
      · exact absurd h4 ((hs.hid b _ (hq2 b h3)).2.2.2 id' r' g4)
    · rcases hat id' r' h2 with ⟨rfl, rfl⟩ | ⟨g3, g4⟩
      · exact absurd h3 ((hs.hid b _ (hq2 b h4)).2.2.2 id r g2)
      · exact hs.inj id id' r r' b g2 g4 h3 h4
  · rcases hat id r h1 with ⟨rfl, rfl⟩ | ⟨g1, g2⟩
    · exact (hs.hid b _ (hq2 b h2)).1
    · exact hs.sep id r b g2 h2
  · obtain ⟨h1, h2⟩ := hidc b v hb
    obtain ⟨g1, g2, g3, g4⟩ := hs.hid b v h2
    refine ⟨g1, g2, Nat.lt_succ_of_lt g3, fun id r h5 => ?_⟩
    rcases hat id r h5 with ⟨rfl, rfl⟩ | ⟨g5, g6⟩
    · exact h1
    · exact g4 id r g6
  · rcases hat id r h1 with ⟨rfl, rfl⟩ | ⟨g1, g2⟩
    · exact fr.hid b _ (hq2 b h2)
    · exact fr.blk id r b g2 h2
theorem sealed_seal (hs : HSim own0 π h n w) {k z : Nat} {rows : List (List AV)} {p : Place} (ho : NstAt w (ownOf own0 π) π n k p z rows) (hc : ∀ row ∈ rows, ∀ c ∈ row, c.sealed = true) :
    ∀ (i : Nat) row, rows[i]? = some row → ∀ x ∈ row, x.sld := by
  intro i row hr x hx
  have h1 := hc row (List.mem_of_getElem? hr) x hx
  by_cases hl : x.lone = true
  · cases x <;> simp_all [AV.sld, AV.sealed, AV.lone]
  · cases x <;> simp [AV.lone] at hl
    rename_i y rs
    obtain ⟨j, hj⟩ := List.getElem?_of_mem hx
    obtain ⟨b, u, _, _, hu⟩ := nst_at ho hr hj
    rcases (show OwnAt _ _ _ _ _ _ _ _ _ _ from hu) with ⟨rfl, _⟩ | ⟨_, _, _, _, _, _, _, _, h2⟩
    · simp [AV.sld]
    · intro r hr
      obtain ⟨t, ht⟩ := List.getElem?_of_mem hr
      exact h2.2.1 t r ht
theorem arr_nst {own : Nat → Prop} {k z : Nat} {rows : List (List AV)} {p : Place} (ho : ArrAt w own π n p z rows) : NstAt w own π n k p z rows := by
  obtain ⟨h0, h1, h2⟩ := ho
  refine ⟨h0, fun i row hr => (h1 i row hr).1, ?_⟩
  cases hb : p.blk with
  | none => simpa only [hb] using h2
  | some b =>
    simp only [hb] at h2
    obtain ⟨cur, e, g1, g2, g3, g4, g5⟩ := h2
    refine ⟨cur, e, g1, g2, g3, g4, fun i j row x u a1 a2 a3 => ?_⟩
    have hf := (h1 i row a1).2 x (List.mem_of_getElem? a2)
    exact (cellAt_lone (by cases x <;> simp_all [AV.lone, AV.free])).2 (g5 i j row x u a1 a2 a3)
theorem turn_sim {A : Anch} (t : Turn h n h2 n2) : ∀ {π : Pl}, A.at π n → Sim w0 pass own0 π e h n a w → ∃ π', A.at π' n2 ∧ Sim w0 pass own0 π' e h2 n2 a w := by
  have step : ∀ {π π' : Pl} {h h1 : Heap} {n n1 : Nat}, Go1 w0 pass own0 π n w π' h1 n1 w → A.at π n → Sim w0 pass own0 π e h n a w → A.at π' n1 ∧ Sim w0 pass own0 π' e h1 n1 a w :=
    fun g hA s => ⟨Anch.at_mono hA g.mono, ⟨g.hs, g.fr, fun t => (s.env t).mono g.mono⟩⟩
  induction t with
  | refl h n => exact fun hA s => ⟨_, hA, s⟩
  | fold k m i j z y rows row rs ho hm hk hr len hl hc t ih =>
    intro π hA s
    subst hl
    obtain ⟨hA, s⟩ := step (go_fold s.hs s.fr ho hm hk hr hc) hA s
    exact ih hA s
  | nil k i j z y rows row ho hr hc t ih =>
    intro π hA s
    obtain ⟨hA, s⟩ := step (go_self s.hs s.fr (o' := .arx z (rows.set i (row.set j (.own y [])))) ho fun p hp hpo => NstAt.swap (x' := .own y []) (.refl fun _ _ hp => (s.hs.lt hp).1) hpo (fun b i' j' _ hb => hb) hr hc (fun _ _ _ u _ _ _ hu => by
      have hu : Rel w (ownOf own0 π) π _ .snil u := hu
      cases hu with
      | snil ad => exact .inl ⟨rfl, ad, rfl⟩)) hA s
    exact ih hA s
  | lax k z rows ho t ih =>
    intro π hA s
    rcases ho with ho | ho
    · obtain ⟨hA, s⟩ := step (go_self s.hs s.fr (o' := .arx z rows) ho fun p hp hpo => arr_nst hpo) hA s
      exact ih hA s
    · obtain ⟨hA, s⟩ := step (go_self s.hs s.fr (o' := .arx z rows) ho fun p hp hpo => hpo.1) hA s
      exact ih hA s
  | clos k z rows ho hs t ih =>
    intro π hA s
    obtain ⟨hA, s⟩ := step (go_self s.hs s.fr (o' := .nst z rows) ho fun p hp hpo => ⟨hpo, sealed_seal s.hs hpo hs⟩) hA s
    exact ih hA s
  | unfold k i j z y rows row rs ho hr hc len hl t ih =>
    intro π hA s
    subst hl
    obtain ⟨π', g⟩ := go_unfold s.hs s.fr ho hr hc
    obtain ⟨hA, s⟩ := step g hA s
    exact ih hA s
theorem St.turn {N : Nat} {A : Anch} (t : Turn h n h2 n2) (st : St w0 pass own0 A N e h n a w) : St w0 pass own0 A N e h2 n2 a w := by
  obtain ⟨h1, h3, π, hA, s⟩ := st
  exact ⟨h1, h3, turn_sim t hA s⟩
theorem Turn.trans {h h1 h2 : Heap} {n n1 n2 : Nat} (t : Turn h n h1 n1) (t2 : Turn h1 n1 h2 n2) : Turn h n h2 n2 := by
  induction t with
  | refl => exact t2
  | fold k m i j z y rows row rs ho hm hk hr len hl hc t ih => exact .fold k m i j z y rows row rs ho hm hk hr len hl hc (ih t2)
  | nil k i j z y rows row ho hr hc t ih => exact .nil k i j z y rows row ho hr hc (ih t2)
  | lax k z rows ho t ih => exact .lax k z rows ho (ih t2)
  | clos k z rows ho hs t ih => exact .clos k z rows ho hs (ih t2)
  | unfold k i j z y rows row rs ho hr hc len hl t ih => exact .unfold k i j z y rows row rs ho hr hc len hl (ih t2)
end
section
variable {P : Program} {N k : Nat} {K : XK} {e : Env} {h h2 : Heap} {n n2 : Nat}
theorem Aw.turn {ic : ICode} (t : Turn h n h2 n2) (hw : Aw P N k ic K e h2 n2) : Aw P N k ic K e h n :=
  fun c hc w0 pass own0 A hA a w st => hw c hc w0 pass own0 A hA a w (st.turn t)
def TurnK (K : XK) : XK := fun x e h n => ∃ h2 n2, Turn h n h2 n2 ∧ K x e h2 n2
theorem Aw.unturn {ic : ICode} (hw : Aw P N k ic (TurnK K) e h n) : Aw P N k ic K e h n := by
  intro c hc w0 pass own0 A hA a w st
  refine wp_mono (hw c hc w0 pass own0 A hA a w st) ?_
  rintro x a' w' ⟨e', h', n', ⟨h2, n2, t, hk⟩, st'⟩
  exact ⟨e', h2, n2, hk, st'.turn t⟩
theorem Lp.turn {x : ICode} (t : Turn h n h2 n2) (hl : Lp P N k x K e h2 n2) : Lp P N k x K e h n := ⟨Aw.turn t hl.1⟩
theorem Lp.introT {α : Type} (inv : α → Prop) (m : α → Nat) (L : α → List (Nat × AV)) (O : α → List (Option AObj)) {x : ICode} (h0 : ∃ a, inv a ∧ ∃ σ, CovN σ e h (L a) (O a) k)
    (round : ∀ a, inv a → Aw P N k x (thenK (fun e' h' n' => ∃ h2 n2, Turn h' n' h2 n2 ∧ ∃ a', inv a' ∧ m a' < m a ∧ ∃ σ, CovN σ e' h2 (L a') (O a') k) K) (envL (L a)) (objsO (O a)) (O a).length) : Lp P N k x K e h n := by
  refine Lp.intro inv m L O h0 fun a ha => Aw.unturn (Aw.mono ?_ (round a ha))
  intro x e h n hk
  cases x <;> simp only [thenK] at hk ⊢ <;> first | exact ⟨h, n, .refl h n, hk⟩ | exact hk
end
end Go.Proofs.Ythanhknkoikbfaa.Av
namespace Go.Proofs.Ythanhknkoikbfaa.Ct
open Go Go.Proofs Go.Proofs.Ythanhknkoikbfaa.Av Go.Proofs.Ythanhknkoikbfaa.Pl
def c_impl_graphOf : ICode := (.seq (.reg [Ol 2 .mv [.c .pnil]]) (.seq (.reg [O1 3 .mv 0, O2 4 (.mks 1 24 [.snil]) 3 3, O1 5 (.bld [.snil] [(0, 1)]) 4, O1 6 (.box 1) 5, O1 2 .mv 6]) .ret))
theorem b_impl_graphOf : Body Try.prog 174 7 c_impl_graphOf [(.t 2)] := body_mk Try.func174 (by kernel_rfl) (by decide)
def c_impl_graph_add : ICode := (.drw [O1 8 .mv 0, O1 9 .nck 8, O1 10 (.fadr 0) 9, O1 11 .ld1 10, O1 12 .mv 1, O1 13 .mv 0, O1 14 .nck 13, O1 15 (.fadr 0) 14, O1 16 .ld1 15, O1 17 .mv 1, O2 18 (.iadr 1) 16 17, O1 19 .ld1 18, O1 20 .mv 2, O1 21 .mv 3, O2 22 (.bld [(.int .i64 0), (.int .i64 0)] [(0, 1), (1, 1)]) 20 21, O1 23 (.bslv 2) 22, O2 24 (.app 2 16) 19 23, O2 25 (.iadr 1) 11 12, S2 (.st 1) 25 24] (unB [0, 1, 3, 7, 0, 0, 32, 96, 224, 0, 992, 2016, 0, 0, 12288, 28672, 65504, 131071, 262143] 0) false true)
theorem b_impl_graph_add : Body Try.prog 175 26 c_impl_graph_add [] := body_mk Try.func175 (by kernel_rfl) (by decide)
abbrev StepD := Nat × Int
def stepRow (s : StepD) : List AV := [.int .i64 ((s.1 : Nat) : Int), .int .i64 s.2]
def stepRows (l : List StepD) : List (List AV) := l.map stepRow
@[simp] theorem length_stepRows (l : List StepD) : (stepRows l).length = l.length := by simp [stepRows]
abbrev GraphD := List (List StepD)
def gRow (l : List StepD) : List AV := [.val (stepRows l)]
def gRows (G : GraphD) : List (List AV) := G.map gRow
@[simp] theorem length_gRows (G : GraphD) : (gRows G).length = G.length := by simp [gRows]
def gOwn (l : List StepD) : List AV := [.own 2 (stepRows l)]
def gOwns (G : GraphD) : List (List AV) := G.map gOwn
@[simp] theorem length_gOwns (G : GraphD) : (gOwns G).length = G.length := by simp [gOwns]
theorem thaw_g (G : GraphD) : (gOwns G).map (List.map AV.thaw) = gRows G := by simp [gOwns, gRows, gOwn, gRow, AV.thaw]
theorem stepRows_nov (l : List StepD) : AV.novss (stepRows l) = true := by
  induction l with
  | nil => rfl
  | cons x r ih => simpa [stepRows, AV.novss, stepRow, AV.novs, AV.nov] using ih
theorem gOwns_nov (G : GraphD) : (gOwns G).all AV.novs = true := by simp [gOwns, gOwn, AV.novs, AV.nov, stepRows_nov]
theorem gOwns_sealed (G : GraphD) : ∀ row ∈ G.map gOwn, ∀ c ∈ row, c.sealed = true := by
  intro row hr
  obtain ⟨x, _, rfl⟩ := List.mem_map.1 hr
  simp [gOwn, AV.sealed]
abbrev gBox (j n : Nat) : AObj := .box [.ref j 0 n]
abbrev gNst (G : GraphD) : AObj := .nst 1 (gOwns G)
theorem snap_graph {h : Heap} {b j n : Nat} {G : GraphD} (hb : h b = some (gBox j n)) (hj : h j = some (gNst G)) (hn : n = G.length) : (AV.ptr b 0 0).snap h = .rptr [.val (gRows G)] 0 := by
  subst hn
  have e : sub (gOwns G) 0 G.length = gOwns G := by
    unfold sub
    rw [List.drop_zero, List.take_of_length_le (by simp)]
  simp only [AV.snap, hb, if_true, List.map_cons, List.map_nil, AV.snap1, hj, Nat.zero_add, length_gOwns, Nat.le_refl, e, thaw_g]
theorem heap_set_set {h : Heap} {k : Nat} {a b : AObj} : (h.set k a).set k b = h.set k b := by
  funext j; simp only [Heap.set]; split <;> rfl
theorem heap_set_same {h : Heap} {k : Nat} {a : AObj} (hk : h k = some a) : h.set k a = h := by
  funext j; simp only [Heap.set]; split
  · rename_i e; rw [e, hk]
  · rfl
theorem turn_nils {h : Heap} {k N n y : Nat} (ho : h k = some (.arx 1 (List.replicate n [.snil]))) : ∀ m, m ≤ n → Turn h N (h.set k (.arx 1 (List.replicate m [.own y []] ++ List.replicate (n - m) [.snil]))) N
  | 0, _ => by
    have e : h.set k (.arx 1 (List.replicate 0 [.own y []] ++ List.replicate (n - 0) [.snil])) = h := heap_set_same (by simpa using ho)
    rw [e]; exact .refl _ _
  | m + 1, hm => by
    refine (turn_nils (y := y) ho m (by omega)).trans ?_
    refine .nil k m 0 1 y _ [.snil] (show Heap.set h k _ k = _ from if_pos rfl) ?_ rfl ?_
    · rw [List.getElem?_append_right (by simp), List.length_replicate, Nat.sub_self, List.getElem?_replicate, if_pos (by omega)]
    · rw [heap_set_set]
      have e : (List.replicate m [AV.own y []] ++ List.replicate (n - m) [AV.snil]).set m ([AV.snil].set 0 (.own y [])) = List.replicate (m + 1) [AV.own y []] ++ List.replicate (n - (m + 1)) [AV.snil] := by
        obtain ⟨d, hd⟩ : ∃ d, n - m = d + 1 := ⟨n - m - 1, by omega⟩
        rw [List.set_append_right _ _ (by simp), List.length_replicate, Nat.sub_self, hd, List.replicate_succ, List.set_cons_zero, show n - (m + 1) = d by omega, List.replicate_succ']
        simp
      rw [e]
      exact .refl _ _
def RGraphOf (xs : List AV) (r : AV) (objs : List AObj) : Prop := ∃ n : Nat, xs = [.int .i64 ((n : Nat) : Int)] ∧ n ≤ 100000 ∧ r = .ptr 0 0 0 ∧ objs = [gBox 1 n, gNst (List.replicate n [])]
theorem RGraphOf_mk {n : Nat} (h : n ≤ 100000) : RGraphOf [.int .i64 ((n : Nat) : Int)] (.ptr 0 0 0) [gBox 1 n, gNst (List.replicate n [])] := ⟨n, rfl, h, rfl, rfl⟩
theorem s_impl_graphOf : PureSound Try.prog 174 RGraphOf := by
  have hR : Rely Try.prog (ctxOf []) := rely_nil mixed
  refine pure_of_aw b_impl_graphOf ?_
  rintro xs r objs ⟨n, rfl, hn, rfl, rfl⟩ -
  refine ⟨by simp, Aw.unturn (vc2_sound hR _ _ _ _ _ ?_)⟩
  conv => whnf
  repeat' ((first | contradiction | (refine And.intro (fun hb => ?_) (fun hb => ?_) <;> first | contradiction | ((try simp only [SB, reduceCtorEq] at hb); try (exfalso; first | contradiction | omega))) | refine G2 ?_ | rw [ints_at (by omega)] | rw [ints_at0 (by omega)] | rw [ints_at' (by omega) (by omega)] | refine G1 ?_ | fail) <;> conv => whnf)
  refine ⟨_, _, .lax 0 1 (List.replicate n [.snil]) (.inl rfl) ((turn_nils (y := 2) (if_pos rfl) n (Nat.le_refl _)).trans (.clos 0 1 (gOwns (List.replicate n [])) ?_ (gOwns_sealed _) (.refl _ _))), .inl rfl, ?_⟩
  · refine (if_pos rfl).trans (congrArg (fun r => some (AObj.arx 1 r)) ?_)
    simp [gOwns, gOwn, stepRows]
  · conv => whnf
    refine ⟨[some 1, some 0], ⟨rfl, And.intro (And.intro rfl trivial) (And.intro ⟨rfl, rfl⟩ trivial)⟩, rfl, rfl, ?_⟩
    simp [AObj.nov, gOwns_nov, AV.novs, AV.nov]
def gAdd (G : GraphD) (f t : Nat) (m : Int) : GraphD := G.set f (G.getD f [] ++ [(t, m)])
@[simp] theorem length_gAdd (G : GraphD) (f t : Nat) (m : Int) : (gAdd G f t m).length = G.length := by simp [gAdd]
def GAdd : GFun := fun xs objs Q => ∃ (G : GraphD) (n : Nat) (f t m : Int), xs = [.ptr 0 0 0, .int .i64 f, .int .i64 t, .int .i64 m] ∧ objs = [gBox 1 n, gNst G] ∧ G.length = n ∧ 0 ≤ f ∧ f < n ∧ 0 ≤ t ∧ (G.getD f.toNat []).length ≤ 1000000000 ∧
  Q (.tup []) [some (gBox 1 n), some (gNst (gAdd G f.toNat t.toNat m))]
theorem GAdd_mk {G : GraphD} {n : Nat} {f t m : Int} {Q : AV → List (Option AObj) → Prop} (hn : G.length = n) (h0 : 0 ≤ f) (h1 : f < n) (h3 : 0 ≤ t) (h2 : (G.getD f.toNat []).length ≤ 1000000000) (hq : Q (.tup []) [some (gBox 1 n), some (gNst (gAdd G f.toNat t.toNat m))]) :
    GAdd [.ptr 0 0 0, .int .i64 f, .int .i64 t, .int .i64 m] [gBox 1 n, gNst G] Q := ⟨G, n, f, t, m, rfl, rfl, hn, h0, h1, h3, h2, hq⟩
theorem gOwns_at {G : GraphD} {f : Nat} (h : f < G.length) : (gOwns G)[f]? = some (gOwn (G.getD f [])) := by
  simp [gOwns, List.getElem?_map, List.getElem?_eq_getElem h, List.getD_eq_getElem?_getD]
theorem set_atI {rows : List (List AV)} {f : Nat} {r : List AV} (h : f < rows.length) : (rows.set f r)[0 + ((f : Nat) : Int).toNat]? = some r := by
  rw [Nat.zero_add, Int.toNat_natCast]
  exact List.getElem?_set_self h
theorem step_app {l : List StepD} {t : Nat} {m : Int} : List.take l.length (stepRows l) ++ [[.int .i64 ((t : Nat) : Int), .int .i64 m]] = stepRows (l ++ [(t, m)]) := by
  rw [List.take_of_length_le (by simp)]
  simp [stepRows, stepRow]
theorem gOwns_set {G : GraphD} {f : Nat} {l : List StepD} : (gOwns G).set f (gOwn l) = gOwns (G.set f l) := by simp [gOwns, List.map_set]
set_option maxHeartbeats 1000000 in
theorem s_impl_add : GenSound Try.prog 175 2 GAdd := by
  have hR : Rely Try.prog (ctxOf []) := rely_nil mixed
  refine gen_of_aw b_impl_graph_add ?_
  rintro xs objs Q - ⟨G, _, f, t, m, rfl, rfl, rfl, h0, h1, h4, h2, hq⟩ -
  obtain ⟨f, rfl⟩ := Int.eq_ofNat_of_zero_le h0
  obtain ⟨t, rfl⟩ := Int.eq_ofNat_of_zero_le h4
  simp only [Int.toNat_natCast] at h2 hq
  have h1 : f < G.length := by omega
  have h3 := length_stepRows (G.getD f [])
  refine ⟨by simp, Aw.turn (.lax 1 1 _ (.inr rfl) (.unfold 1 f 0 1 2 _ (gOwn (G.getD f [])) (stepRows (G.getD f [])) rfl (gOwns_at h1) rfl _ (length_stepRows _) (.refl _ _))) (Aw.unturn (vc3_sound hR nvNil _ _ _ _ _ ?_))⟩
  conv => whnf
  repeat' ((first | contradiction | (refine And.intro (fun hb => ?_) (fun hb => ?_) <;> first | contradiction | ((try simp only [SB, reduceCtorEq] at hb); try (exfalso; first | contradiction | omega))) | refine G2 ?_ | rw [ints_at (by omega)] | rw [ints_at0 (by omega)] | rw [ints_at' (by omega) (by omega)] | refine G1 ?_ | rw [set_atI (by simpa using h1)] | fail) <;> conv => whnf)
  refine ⟨_, _, .fold 1 3 f 0 1 2 _ [.ref 3 0 ((G.getD f []).length + 1)] (stepRows (G.getD f [] ++ [(t, m)])) rfl (congrArg (fun r => some (AObj.arr 2 r)) step_app) (by decide) ?_ _ (by simp) rfl (.clos 1 1 (gOwns (gAdd G f t m)) (congrArg (fun r => some (AObj.arx 1 r)) ?_) (gOwns_sealed _) (.refl _ _)), .inr rfl, ?_⟩
  · rw [Nat.zero_add, Int.toNat_natCast]
    exact List.getElem?_set_self (by simpa using h1)
  · rw [Nat.zero_add, Int.toNat_natCast, List.set_set, List.set_set]
    exact gOwns_set
  · conv => whnf
    exact ⟨[some 0, some 1], .tup [], [some (gBox 1 G.length), some (gNst (gAdd G f t m))], ⟨rfl, And.intro (And.intro rfl trivial) (And.intro ⟨rfl, rfl⟩ trivial)⟩, trivial, rfl, hq⟩
def c_impl_graph_back : ICode := (.seq (.reg [Ol 2 .mv [.c .pnil]]) (.seq (.reg [O1 8 .mv 0, O1 9 .nck 8, O1 10 (.fadr 0) 9, O1 11 .ld1 10, O1 12 .len 11, O1 13 (.call 174) 12, O1 3 .mv 13]) (.seq (.seq (.reg [O1 14 .mv 0, O1 15 .nck 14, O1 16 (.fadr 0) 15, O1 17 .ld1 16, O1 18 .len 17, Ol 19 .mv [ci 0]]) (.block 0 (.loop (.seq (.reg [O2 20 (.bin .lss) 19 18]) (.seq (.cond (.t 20) .skip (.exit 0)) (.seq (.block 1 (.seq (.reg [O1 21 .mv 19, O2 22 (.iadr 1) 17 19, O1 23 .ld1 22, O1 4 .mv 21, O1 5 .mv 23]) (.seq (.reg [O1 24 .mv 5, O1 25 .len 24, Ol 26 .mv [ci 0]]) (.block 2 (.loop (.seq (.reg [O2 27 (.bin .lss) 26 25]) (.seq (.cond (.t 27) .skip (.exit 2)) (.seq (.block 3 (.seq (.reg [O2 28 (.iadr 2) 24 26, O1 29 (.ldn 2) 28, O0 7 (.alc [(.int .i64 0), (.int .i64 0)]), S2 (.st 2) 7 29]) (.reg [O1 30 .mv 3, O1 31 (.fadr 0) 7, O1 32 .ld1 31, O1 33 .mv 4, O1 34 (.fadr 1) 7, O1 35 .ld1 34, Ol 36 (.call 175) [.t 30, .t 32, .t 33, .t 35]]))) (.reg [Ol 37 (.bin .add) [.t 26, ci 1], O1 26 .mv 37]))))))))) (.reg [Ol 38 (.bin .add) [.t 19, ci 1], O1 19 .mv 38]))))))) (.seq (.reg [O1 39 .mv 3, O1 2 .mv 39]) .ret))))
theorem b_impl_graph_back : Body Try.prog 177 40 c_impl_graph_back [(.t 2)] := body_mk Try.func177 (by kernel_rfl) (by decide)
abbrev Trip := Nat × Nat × Int
def mkG (n : Nat) (l : List Trip) : GraphD := (List.range n).map fun x => (l.filter fun e => e.1 == x).map fun e => e.2
@[simp] theorem length_mkG (n : Nat) (l : List Trip) : (mkG n l).length = n := by simp [mkG]
theorem mkG_at {n x : Nat} {l : List Trip} (h : x < n) : (mkG n l).getD x [] = (l.filter fun e => e.1 == x).map fun e => e.2 := by simp [mkG, h]
theorem mkG_nil (n : Nat) : mkG n [] = List.replicate n [] := by
  refine List.ext_getElem (by simp) fun i h1 h2 => ?_
  simp [mkG]
theorem mkG_small {n x : Nat} {l : List Trip} : ((mkG n l).getD x []).length ≤ l.length := by
  by_cases h : x < n
  · rw [mkG_at h, List.length_map]
    exact List.length_filter_le _ _
  · rw [List.getD_eq_getElem?_getD, List.getElem?_eq_none (by simp; omega)]
    simp
theorem gAdd_mkG {n f t : Nat} {l : List Trip} {m : Int} (hf : f < n) : gAdd (mkG n l) f t m = mkG n (l ++ [(f, t, m)]) := by
  refine List.ext_getElem (by simp) fun i h1 h2 => ?_
  have hi : i < n := by simpa using h2
  have e : (gAdd (mkG n l) f t m)[i] = ((mkG n l).set f ((mkG n l).getD f [] ++ [(t, m)]))[i]'(by simpa using hi) := rfl
  rw [e, List.getElem_set]
  split
  · rename_i he
    subst he
    rw [mkG_at hf]
    simp [mkG, List.filter_append]
  · rename_i he
    simp [mkG, List.filter_append, he]
def Adj (G : GraphD) (p r : Nat) : Prop := ∃ m, (r, m) ∈ G.getD p []
def GOk (G : GraphD) : Prop := ∀ p, ∀ s ∈ G.getD p [], s.1 < G.length
theorem adj_lt {G : GraphD} (h : GOk G) {p r : Nat} (ha : Adj G p r) : p < G.length ∧ r < G.length := by
  obtain ⟨m, hm⟩ := ha
  refine ⟨?_, h p _ hm⟩
  rcases Nat.lt_or_ge p G.length with hp | hp
  · exact hp
  · rw [List.getD_eq_getElem?_getD, List.getElem?_eq_none hp] at hm
    simp at hm
theorem mem_mkG {n x t : Nat} {m : Int} {l : List Trip} : (t, m) ∈ (mkG n l).getD x [] ↔ x < n ∧ (x, t, m) ∈ l := by
  by_cases h : x < n
  · rw [mkG_at h]
    simp only [List.mem_map, List.mem_filter, beq_iff_eq, h, true_and]
    constructor
    · rintro ⟨e, ⟨h1, rfl⟩, h2⟩
      obtain ⟨a, b, c⟩ := e
      cases h2
      exact h1
    · exact fun h1 => ⟨(x, t, m), ⟨h1, rfl⟩, rfl⟩
  · rw [List.getD_eq_getElem?_getD, List.getElem?_eq_none (by simp; omega)]
    simp [h]
theorem adj_mkG {n x t : Nat} {l : List Trip} : Adj (mkG n l) x t ↔ x < n ∧ ∃ m, (x, t, m) ∈ l := by
  unfold Adj
  simp only [mem_mkG]
  exact ⟨fun ⟨m, h1, h2⟩ => ⟨h1, m, h2⟩, fun ⟨h1, m, h2⟩ => ⟨m, h1, h2⟩⟩
theorem gok_mkG {n : Nat} {l : List Trip} (h : ∀ e ∈ l, e.2.1 < n) : GOk (mkG n l) := by
  rintro p ⟨t, m⟩ hs
  rw [length_mkG]
  exact h _ (mem_mkG.1 hs).2
/-! ### the graph of an automaton -/
theorem edge_in {a : AutoD} (h : AutoOk a) {i : Nat} (hi : i < a.edges.length) : EdgeIn a (a.edges.getD i default) := (h.2.2 i hi).1
/-! ### a graph turned -/
def ways (G : GraphD) (i : Nat) : List Trip := (G.getD i []).map fun s => (s.1, i, s.2)
def allWays (G : GraphD) (i : Nat) : List Trip := (List.range i).flatMap (ways G)
def backG (G : GraphD) : GraphD := mkG G.length (allWays G G.length)
theorem allWays_succ {G : GraphD} {i : Nat} : allWays G (i + 1) = allWays G i ++ ways G i := by simp [allWays, List.range_succ]
theorem ways_take {G : GraphD} {i j : Nat} (h : j < (G.getD i []).length) : (ways G i).take (j + 1) = (ways G i).take j ++ [(((G.getD i []).getD j default).1, i, ((G.getD i []).getD j default).2)] := by
  unfold ways
  rw [← List.map_take, ← List.map_take, take_succ_D h, List.map_append]
  rfl
theorem mem_allWays {G : GraphD} {n x t : Nat} {m : Int} : (x, t, m) ∈ allWays G n ↔ t < n ∧ (x, m) ∈ G.getD t [] := by
  simp only [allWays, ways, List.mem_flatMap, List.mem_range, List.mem_map]
  constructor
  · rintro ⟨i, hi, s, hs, he⟩
    cases he
    exact ⟨hi, hs⟩
  · exact fun ⟨h1, h2⟩ => ⟨t, h1, (x, m), h2, rfl⟩
theorem adj_back {G : GraphD} (h : GOk G) {x t : Nat} : Adj (backG G) x t ↔ Adj G t x := by
  unfold backG
  rw [adj_mkG]
  simp only [mem_allWays]
  constructor
  · rintro ⟨_, m, _, hm⟩; exact ⟨m, hm⟩
  · intro ha
    obtain ⟨h1, h2⟩ := adj_lt h ha
    obtain ⟨m, hm⟩ := ha
    exact ⟨h2, m, h1, hm⟩
theorem gok_back {G : GraphD} (h : GOk G) : GOk (backG G) := gok_mkG (by
  rintro ⟨x, t, m⟩ he
  exact (mem_allWays.1 he).1)
theorem ways_len (G : GraphD) (i : Nat) : (ways G i).length = (G.getD i []).length := by simp [ways]
theorem allWays_mono {G : GraphD} {i j : Nat} (h : i ≤ j) : (allWays G i).length ≤ (allWays G j).length := by
  induction j with
  | zero => rw [show i = 0 by omega]; exact Nat.le_refl _
  | succ j ih =>
    by_cases hij : i = j + 1
    · rw [hij]; exact Nat.le_refl _
    · rw [allWays_succ, List.length_append]
      have := ih (by omega)
      omega
def steps (G : GraphD) : Nat := (allWays G G.length).length
theorem steps_le {G : GraphD} {i : Nat} (hi : i < G.length) : (G.getD i []).length ≤ steps G := by
  have := allWays_mono (G := G) (show i + 1 ≤ G.length by omega)
  rw [allWays_succ, List.length_append, ways_len] at this
  unfold steps
  omega
def RBack (xs : List AV) (r : AV) (objs : List AObj) : Prop := ∃ G, xs = [.rptr [.val (gRows G)] 0] ∧ GOk G ∧ G.length ≤ 100000 ∧ steps G ≤ 1000000000 ∧ r = .ptr 0 0 0 ∧ objs = [gBox 1 G.length, gNst (backG G)]
theorem RBack_eq {xs : List AV} {G : GraphD} (hx : xs = [.rptr [.val (gRows G)] 0]) (h : GOk G) (h1 : G.length ≤ 100000) (h2 : steps G ≤ 1000000000) : RBack xs (.ptr 0 0 0) [gBox 1 G.length, gNst (backG G)] := ⟨G, hx, h, h1, h2, rfl, rfl⟩
theorem gRows_at {G : GraphD} {i : Nat} (h : i < G.length) : (gRows G)[((i : Nat) : Int).toNat]? = some (gRow (G.getD i [])) := map_at h
theorem step_at {l : List StepD} {i : Nat} (h : i < l.length) : (stepRows l)[((i : Nat) : Int).toNat]? = some (stepRow (l.getD i default)) := map_at h
theorem getD_mem' {α : Type} [Inhabited α] {l : List α} {i : Nat} (h : i < l.length) : l.getD i default ∈ l := by
  rw [List.getD_eq_getElem?_getD, List.getElem?_eq_getElem h]
  exact List.getElem_mem h
set_option maxHeartbeats 4000000 in
theorem s_impl_back : PureSound Try.prog 177 RBack := by
  have hR : Rely Try.prog (ctxOf [(174, .pure RGraphOf), (175, .gen 2 GAdd)]) := rely_cons b_impl_graphOf.has s_impl_graphOf (rely_cons b_impl_graph_add.has s_impl_add (rely_nil mixed))
  refine pure_of_aw b_impl_graph_back ?_
  rintro xs r objs ⟨G, rfl, hG, hn, hst, rfl, rfl⟩ -
  have hle := length_gRows G
  refine ⟨by simp, vc2_sound hR _ _ _ _ _ ?_⟩
  conv => whnf
  repeat' ((first | contradiction | (refine And.intro (fun hb => ?_) (fun hb => ?_) <;> first | contradiction | ((try simp only [SB, reduceCtorEq] at hb); try (exfalso; first | contradiction | omega))) | refine G2 ?_ | rw [ints_at (by omega)] | rw [ints_at0 (by omega)] | rw [ints_at' (by omega) (by omega)] | refine G1 ?_ | rw [hle] | refine ⟨_, _, RGraphOf_mk hn, ?_⟩ | fail) <;> conv => whnf)
  refine Lp.intro (α := Nat) (fun i => i ≤ G.length) (fun i => G.length - i) (fun i => [(3, .ptr 0 0 0), (17, .val (gRows G)), (18, .int .i64 G.length), (19, .int .i64 i)]) (fun i => [some (gBox 1 G.length), some (gNst (mkG G.length (allWays G i)))]) ?_ ?_
  · refine ⟨0, by omega, [some 0, some 1], rfl, rfl, And.intro (And.intro rfl trivial) (And.intro ⟨rfl, ?_⟩ trivial), ?_⟩
    · simp [mkG_nil, allWays]
    · repeat' (first
        | exact trivial
        | refine ⟨?_, ?_⟩
        | fail)
      all_goals first
        | with_reducible rfl
        | (conv => whnf
           try left
           conv => lhs; whnf
           first
             | rfl
             | exact congrArg (AV.int .i64) (by omega)
             | skip)
  · intro i hi
    refine vc2_sound hR _ _ _ _ _ ?_
    by_cases hlt : i < G.length
    · have hsl := length_stepRows (G.getD i [])
      have hsum : (allWays G i).length + (G.getD i []).length ≤ steps G := by
        have := allWays_mono (G := G) (show i + 1 ≤ G.length by omega)
        rw [allWays_succ, List.length_append, ways_len] at this
        exact this
      conv => whnf
      repeat' ((first | contradiction | (refine And.intro (fun hb => ?_) (fun hb => ?_) <;> first | contradiction | ((try simp only [SB, reduceCtorEq] at hb); try (exfalso; first | contradiction | omega))) | refine G2 ?_ | rw [ints_at (by omega)] | rw [ints_at0 (by omega)] | rw [ints_at' (by omega) (by omega)] | refine G1 ?_ | rw [gRows_at (by omega)] | fail) <;> conv => whnf)
      refine Lp.intro (α := Nat) (fun j => j ≤ (G.getD i []).length) (fun j => (G.getD i []).length - j) (fun j => [(3, .ptr 0 0 0), (4, .int .i64 i), (17, .val (gRows G)), (18, .int .i64 G.length), (19, .int .i64 i), (24, .val (stepRows (G.getD i []))), (25, .int .i64 (G.getD i []).length), (26, .int .i64 j)]) (fun j => [some (gBox 1 G.length), some (gNst (mkG G.length (allWays G i ++ (ways G i).take j)))]) ?_ ?_
      · refine ⟨0, by omega, [some 0, some 1], rfl, rfl, And.intro (And.intro rfl trivial) (And.intro ⟨rfl, ?_⟩ trivial), ?_⟩
        · simp
        · repeat' (first
            | exact trivial
            | refine ⟨?_, ?_⟩
            | fail)
          all_goals first
            | with_reducible rfl
            | (conv => whnf
               try left
               conv => lhs; whnf
               first
                 | rfl
                 | exact congrArg (AV.int .i64) (by omega)
                 | skip)
      · intro j hj
        refine vc2_sound hR _ _ _ _ _ ?_
        by_cases hjl : j < (G.getD i []).length
        · have hml := length_mkG G.length (allWays G i ++ (ways G i).take j)
          have hin := hG i _ (getD_mem' hjl)
          have hsm := mkG_small (n := G.length) (x := (((G.getD i []).getD j default).1 : Int).toNat) (l := allWays G i ++ (ways G i).take j)
          rw [List.length_append, List.length_take] at hsm
          have hnx : gAdd (mkG G.length (allWays G i ++ (ways G i).take j)) (((G.getD i []).getD j default).1 : Int).toNat (i : Int).toNat ((G.getD i []).getD j default).2 = mkG G.length (allWays G i ++ (ways G i).take (j + 1)) := by
            rw [Int.toNat_natCast, Int.toNat_natCast, gAdd_mkG hin, ways_take hjl, List.append_assoc]
          conv => whnf
          repeat' ((first | contradiction | (refine And.intro (fun hb => ?_) (fun hb => ?_) <;> first | contradiction | ((try simp only [SB, reduceCtorEq] at hb); try (exfalso; first | contradiction | omega))) | refine G2 ?_ | rw [ints_at (by omega)] | rw [ints_at0 (by omega)] | rw [ints_at' (by omega) (by omega)] | refine G1 ?_ | rw [step_at (by omega)] | refine ⟨GAdd_mk hml (by omega) (by omega) (by omega) (by omega) ?_⟩ | fail) <;> conv => whnf)
          refine ⟨j + 1, by omega, by omega, [some 0, some 1], rfl, rfl, And.intro (And.intro rfl trivial) (And.intro ⟨rfl, congrArg gOwns hnx⟩ trivial), ?_⟩
          repeat' (first
            | exact trivial
            | refine ⟨?_, ?_⟩
            | fail)
          all_goals first
            | with_reducible rfl
            | (conv => whnf
               try left
               conv => lhs; whnf
               first
                 | rfl
                 | exact congrArg (AV.int .i64) (by omega)
                 | skip)
        · conv => whnf
          repeat' ((first | contradiction | (refine And.intro (fun hb => ?_) (fun hb => ?_) <;> first | contradiction | ((try simp only [SB, reduceCtorEq] at hb); try (exfalso; first | contradiction | omega))) | refine G2 ?_ | rw [ints_at (by omega)] | rw [ints_at0 (by omega)] | rw [ints_at' (by omega) (by omega)] | refine G1 ?_ | fail) <;> conv => whnf)
          refine ⟨i + 1, by omega, by omega, [some 0, some 1], rfl, rfl, And.intro (And.intro rfl trivial) (And.intro ⟨rfl, ?_⟩ trivial), ?_⟩
          · rw [List.take_of_length_le (by rw [ways_len]; omega), allWays_succ]
          · repeat' (first
              | exact trivial
              | refine ⟨?_, ?_⟩
              | fail)
            all_goals first
              | with_reducible rfl
              | (conv => whnf
                 try left
                 conv => lhs; whnf
                 first
                   | rfl
                   | exact congrArg (AV.int .i64) (by omega)
                   | skip)
    · conv => whnf
      repeat' ((first | contradiction | (refine And.intro (fun hb => ?_) (fun hb => ?_) <;> first | contradiction | ((try simp only [SB, reduceCtorEq] at hb); try (exfalso; first | contradiction | omega))) | refine G2 ?_ | rw [ints_at (by omega)] | rw [ints_at0 (by omega)] | rw [ints_at' (by omega) (by omega)] | refine G1 ?_ | fail) <;> conv => whnf)
      refine ⟨.inl rfl, ?_⟩
      conv => whnf
      have hil : i = G.length := by omega
      subst hil
      exact ⟨[some 0, some 1], ⟨rfl, And.intro (And.intro rfl trivial) (And.intro ⟨rfl, rfl⟩ trivial)⟩, rfl, rfl, by simp [AObj.nov, gOwns_nov, AV.novs, AV.nov]⟩
def c_spec_GenOf : ICode := (.seq (.reg [O1 1 (.box 4) 0, O0 2 (.alc [(.int .i64 0), (.int .i64 0), (.int .i64 0), (.int .i64 0), .snil])]) (.seq (.seq (.reg [O1 7 (.ldn 4) 1, O1 8 (.call 38) 7, O1 9 .not 8]) (.cond (.t 9) (.seq (.reg [O0 10 (.bld [(.int .i64 0), (.int .i64 0), (.int .i64 0), (.int .i64 0), .snil] []), S2 (.st 5) 2 10]) .ret) .skip)) (.seq (.reg [O1 11 (.fadr 0) 1, O1 12 .ld1 11, O1 13 (.fadr 1) 1, O1 14 .ld1 13, O1 15 (.fadr 2) 1, O1 16 .ld1 15, Ol 17 (.bld [(.int .i64 0), (.int .i64 0), (.int .i64 0), (.int .i64 0), .snil] [(0, 1), (1, 1), (2, 1), (3, 1)]) [.t 12, .t 14, .t 16, ci 1], O0 3 (.alc [(.int .i64 0), (.int .i64 0), (.int .i64 0), (.int .i64 0), .snil]), S2 (.st 5) 3 17]) (.seq (.seq (.reg [Ol 4 .mv [ci 0]]) (.block 0 (.loop (.seq (.seq (.reg [O1 18 .mv 4, O1 19 (.fadr 3) 1, O1 20 .ld1 19, O1 21 .len 20, O2 22 (.bin .lss) 18 21]) (.cond (.t 22) .skip (.exit 0))) (.seq (.block 1 (.seq (.reg [O1 25 (.fadr 3) 1, O1 26 .ld1 25, O1 27 .mv 4, O2 28 (.iadr 4) 26 27, O1 29 (.ldn 4) 28, O0 5 (.alc [(.int .i64 0), (.int .i64 0), (.int .i64 0), (.bool false)]), S2 (.st 4) 5 29]) (.seq (.reg [Ol 6 .mv [ci 0]]) (.seq (.seq (.reg [O1 30 (.fadr 3) 5, O1 31 .ld1 30]) (.cond (.t 31) (.reg [Ol 6 .mv [ci 1]]) .skip)) (.reg [O1 32 (.fadr 4) 3, O1 33 .ld1 32, O1 34 (.fadr 0) 5, O1 35 .ld1 34, O1 36 (.fadr 1) 5, O1 37 .ld1 36, O1 38 (.fadr 2) 5, O1 39 .ld1 38, O1 40 .mv 6, Ol 41 (.bld [(.int .i64 0), (.int .i64 0), (.int .i64 0), (.int .i64 0)] [(0, 1), (1, 1), (2, 1), (3, 1)]) [.t 35, .t 37, .t 39, .t 40], O1 42 (.bslv 4) 41, O2 43 (.app 4 32) 33 42, O1 44 (.fadr 4) 3, S2 (.st 1) 44 43]))))) (.reg [O1 23 .mv 4, Ol 24 (.bin .add) [.t 23, ci 1], O1 4 .mv 24])))))) (.seq (.reg [O1 45 (.ldn 5) 3, S2 (.st 5) 2 45]) .ret)))))
theorem b_spec_GenOf : Body Try.prog 98 46 c_spec_GenOf [(.cn 2 5)] := body_mk Try.func98 (by kernel_rfl) (by decide)
def c_impl_genOf : ICode := (.seq (.reg [O1 1 (.box 4) 0, O0 2 (.alc [(.int .i64 0), (.int .i64 0), (.int .i64 0), (.int .i64 0), .snil])]) (.seq (.reg [O1 7 (.fadr 0) 1, O1 8 .ld1 7, O1 9 (.fadr 1) 1, O1 10 .ld1 9, O1 11 (.fadr 2) 1, O1 12 .ld1 11, Ol 13 (.bld [(.int .i64 0), (.int .i64 0), (.int .i64 0), (.int .i64 0), .snil] [(0, 1), (1, 1), (2, 1), (3, 1)]) [.t 8, .t 10, .t 12, ci 1], O0 3 (.alc [(.int .i64 0), (.int .i64 0), (.int .i64 0), (.int .i64 0), .snil]), S2 (.st 5) 3 13]) (.seq (.seq (.reg [O1 14 (.fadr 3) 1, O1 15 .ld1 14, O1 16 .len 15, Ol 17 .mv [ci 0]]) (.block 0 (.loop (.seq (.reg [O2 18 (.bin .lss) 17 16]) (.seq (.cond (.t 18) .skip (.exit 0)) (.seq (.block 1 (.seq (.reg [O2 19 (.iadr 4) 15 17, O1 20 (.ldn 4) 19, O0 5 (.alc [(.int .i64 0), (.int .i64 0), (.int .i64 0), (.bool false)]), S2 (.st 4) 5 20]) (.seq (.reg [O1 21 (.fadr 0) 5, O1 22 .ld1 21, O1 23 (.fadr 1) 5, O1 24 .ld1 23, O1 25 (.fadr 2) 5, O1 26 .ld1 25, O3 27 (.bld [(.int .i64 0), (.int .i64 0), (.int .i64 0), (.int .i64 0)] [(0, 1), (1, 1), (2, 1)]) 22 24 26, O0 6 (.alc [(.int .i64 0), (.int .i64 0), (.int .i64 0), (.int .i64 0)]), S2 (.st 4) 6 27]) (.seq (.seq (.reg [O1 28 (.fadr 3) 5, O1 29 .ld1 28]) (.cond (.t 29) (.reg [O1 30 (.fadr 3) 6, Sl (.st 1) [.t 30, ci 1]]) .skip)) (.reg [O1 31 (.fadr 4) 3, O1 32 .ld1 31, O1 33 (.ldn 4) 6, O1 34 (.bslv 4) 33, O2 35 (.app 4 32) 32 34, O1 36 (.fadr 4) 3, S2 (.st 1) 36 35]))))) (.reg [Ol 37 (.bin .add) [.t 17, ci 1], O1 17 .mv 37]))))))) (.seq (.reg [O1 38 (.ldn 5) 3, S2 (.st 5) 2 38]) .ret))))
theorem b_impl_genOf : Body Try.prog 102 39 c_impl_genOf [(.cn 2 5)] := body_mk Try.func102 (by kernel_rfl) (by decide)
def markG (e : EdgeD) : GEdgeD := ⟨e.src, e.letter, e.dst, if e.mark = true then 1 else 0⟩
def genOfD (a : AutoD) : GenD := ⟨a.letters, a.states, a.start, 1, a.edges.map markG⟩
@[simp] theorem length_genOfD (a : AutoD) : (genOfD a).edges.length = a.edges.length := by simp [genOfD]
def genRef (o : Nat) (g : GenD) : List AV := [.int .i64 g.letters, .int .i64 g.states, .int .i64 g.start, .int .i64 g.sets, .ref o 0 g.edges.length]
def zeroGen : GenD := ⟨0, 0, 0, 0, []⟩
theorem genOf_ok {a : AutoD} (h : AutoOk a) : GenOk (genOfD a) := by
  refine ⟨h.1, show (0 : Int) ≤ 1 ∧ (1 : Int) ≤ 4 by decide, by rw [length_genOfD]; exact h.2.1, fun i hi => ?_⟩
  rw [length_genOfD] at hi
  obtain ⟨h1, h2⟩ := h.2.2 i hi
  have e : ∀ j, j < a.edges.length → (genOfD a).edges.getD j default = markG (a.edges.getD j default) := fun j hj => by
    simp [genOfD, List.getD_eq_getElem?_getD, hj]
  refine ⟨?_, fun h0 => ?_⟩
  · rw [e i hi]
    refine ⟨h1.1, h1.2.1, h1.2.2, ?_⟩
    show 0 ≤ (if (a.edges.getD i default).mark = true then (1 : Int) else 0) ∧ (if (a.edges.getD i default).mark = true then (1 : Int) else 0) ≤ 2147483647 ∧ (if (a.edges.getD i default).mark = true then (1 : Int) else 0) < 2 ^ (1 : Int).toNat
    split <;> decide
  · rw [e i hi, e (i - 1) (by omega)]
    exact h2 h0
theorem take_mark {l : List EdgeD} {i k : Nat} (hi : i < l.length) (hk : k = i) : List.take k (gedgeRows ((l.take i).map markG)) ++ [gedgeRow (markG (l.getD i default))] = gedgeRows ((l.take (i + 1)).map markG) := by
  subst hk
  rw [List.take_of_length_le (by simp [gedgeRows]; omega), take_succ_D hi]
  simp [gedgeRows]
def RGenOf (xs : List AV) (r : AV) (objs : List AObj) : Prop := ∃ a g, xs = [.agg (autoRow a)] ∧ (AutoOk a → g = genOfD a) ∧ (¬ AutoOk a → g = zeroGen) ∧ r = .agg (genRef 0 g) ∧ objs = [.arr 4 (gedgeRows g.edges)]
theorem RGenOf_eq {xs : List AV} {a : AutoD} (hx : xs = [.agg (autoRow a)]) (h : AutoOk a) : RGenOf xs (.agg (genRef 0 (genOfD a))) [.arr 4 (gedgeRows (genOfD a).edges)] := ⟨a, _, hx, fun _ => rfl, fun hn => absurd h hn, rfl, rfl⟩
set_option maxHeartbeats 4000000 in
theorem s_spec_GenOf : PureSound Try.prog 98 RGenOf := by
  have hR : Rely Try.prog (ctxOf [(38, .pure RAutoOk)]) := rely_cons b_spec_AutoOk.has s_spec_AutoOk (rely_nil mixed)
  refine pure_of_aw b_spec_GenOf ?_
  rintro xs r objs ⟨a, g, rfl, hg1, hg2, rfl, rfl⟩ -
  have hle := length_edgeRows a.edges
  refine ⟨by simp, vc2_sound hR _ _ _ _ _ ?_⟩
  conv => whnf
  repeat' ((first | contradiction | (refine And.intro (fun hb => ?_) (fun hb => ?_) <;> first | contradiction | ((try simp only [SB, reduceCtorEq] at hb); try (exfalso; first | contradiction | omega))) | refine G2 ?_ | rw [ints_at (by omega)] | rw [ints_at0 (by omega)] | rw [ints_at' (by omega) (by omega)] | refine G1 ?_ | refine ⟨_, _, RAutoOk_mk, ?_⟩ | fail) <;> conv => whnf)
  rotate_left
  · obtain rfl := hg2 (by assumption)
    refine ⟨.inl rfl, ?_⟩
    conv => whnf
    exact ⟨Nat.le_refl 5, [none], ⟨rfl, And.intro rfl trivial⟩, ⟨.inl rfl, .inl rfl, .inl rfl, .inl rfl, ⟨rfl, rfl, rfl⟩, trivial⟩, rfl, rfl⟩
  have ha : AutoOk a := by assumption
  obtain rfl := hg1 ha
  have hl := ha.2.1
  refine Lp.intro (α := Nat) (fun i => i ≤ a.edges.length) (fun i => a.edges.length - i) (fun i => [(1, .rptr (autoRow a) 0), (2, .ptr 0 0 0), (3, .ptr 1 0 0), (4, .int .i64 i)])
    (fun i => [some (.box [.int .i64 0, .int .i64 0, .int .i64 0, .int .i64 0, .snil]), some (.box [.int .i64 a.letters, .int .i64 a.states, .int .i64 a.start, .int .i64 1, .ref 2 0 i]), some (.arr 4 (gedgeRows ((a.edges.take i).map markG)))]) ?_ ?_
  · refine ⟨0, Nat.zero_le _, [some 1, some 2, none], rfl, rfl, And.intro ⟨.inl rfl, .inl rfl, .inl rfl, .inl rfl, .inl rfl, trivial⟩ (And.intro ⟨.inl rfl, .inl rfl, .inl rfl, .inl rfl, ⟨rfl, rfl, rfl⟩, trivial⟩ (And.intro rfl trivial)), ?_⟩
    exact ⟨.inr rfl, rfl, rfl, .inl rfl, trivial⟩
  intro i hi
  have hti : (gedgeRows ((a.edges.take i).map markG)).length = i := by simp; omega
  refine vc2_sound hR _ _ _ _ _ ?_
  by_cases hlt : i < a.edges.length
  · have htm := take_mark (k := i) hlt rfl
    have hat := edge_at hlt
    generalize a.edges.getD i default = e at *
    obtain ⟨e1, e2, e3, e4⟩ := e
    cases e4
    all_goals
      conv => whnf
      repeat' ((first | contradiction | (refine And.intro (fun hb => ?_) (fun hb => ?_) <;> first | contradiction | ((try simp only [SB, reduceCtorEq] at hb); try (exfalso; first | contradiction | omega))) | refine G2 ?_ | rw [ints_at (by omega)] | rw [ints_at0 (by omega)] | rw [ints_at' (by omega) (by omega)] | refine G1 ?_ | rw [hat] | fail) <;> conv => whnf)
      refine ⟨i + 1, hlt, by omega, [some 0, some 1, some 4], rfl, rfl, And.intro ⟨.inl rfl, .inl rfl, .inl rfl, .inl rfl, .inl rfl, trivial⟩ (And.intro ⟨.inl rfl, .inl rfl, .inl rfl, .inl rfl, rfl, trivial⟩ (And.intro ⟨rfl, htm⟩ trivial)), ?_⟩
      exact ⟨.inl rfl, rfl, rfl, .inl rfl, trivial⟩
  · obtain rfl : i = a.edges.length := by omega
    conv => whnf
    repeat' ((first | contradiction | (refine And.intro (fun hb => ?_) (fun hb => ?_) <;> first | contradiction | ((try simp only [SB, reduceCtorEq] at hb); try (exfalso; first | contradiction | omega))) | refine G2 ?_ | rw [ints_at (by omega)] | rw [ints_at0 (by omega)] | rw [ints_at' (by omega) (by omega)] | refine G1 ?_ | fail) <;> conv => whnf)
    refine ⟨.inl rfl, ?_⟩
    conv => whnf
    refine ⟨Nat.le_refl 5, [some 2], ⟨rfl, And.intro ⟨rfl, ?_⟩ trivial⟩, ⟨.inl rfl, .inl rfl, .inl rfl, .inl rfl, congrArg (AV.ref 2 0) (length_genOfD a).symm, trivial⟩, rfl, by simp [AObj.nov, gedgeRows_nov]⟩
    rw [List.take_length]
    rfl
def RGenOfI (xs : List AV) (r : AV) (objs : List AObj) : Prop := ∃ a, xs = [.agg (autoRow a)] ∧ AutoOk a ∧ r = .agg (genRef 0 (genOfD a)) ∧ objs = [.arr 4 (gedgeRows (genOfD a).edges)]
theorem RGenOfI_eq {xs : List AV} {a : AutoD} (hx : xs = [.agg (autoRow a)]) (h : AutoOk a) : RGenOfI xs (.agg (genRef 0 (genOfD a))) [.arr 4 (gedgeRows (genOfD a).edges)] := ⟨a, hx, h, rfl, rfl⟩
set_option maxHeartbeats 4000000 in
theorem s_impl_genOf : PureSound Try.prog 102 RGenOfI := by
  have hR : Rely Try.prog (ctxOf []) := rely_nil mixed
  refine pure_of_aw b_impl_genOf ?_
  rintro xs r objs ⟨a, rfl, ha, rfl, rfl⟩ -
  have hle := length_edgeRows a.edges
  have hl := ha.2.1
  refine ⟨by simp, vc2_sound hR _ _ _ _ _ ?_⟩
  conv => whnf
  repeat' ((first | contradiction | (refine And.intro (fun hb => ?_) (fun hb => ?_) <;> first | contradiction | ((try simp only [SB, reduceCtorEq] at hb); try (exfalso; first | contradiction | omega))) | refine G2 ?_ | rw [ints_at (by omega)] | rw [ints_at0 (by omega)] | rw [ints_at' (by omega) (by omega)] | refine G1 ?_ | fail) <;> conv => whnf)
  refine Lp.intro (α := Nat) (fun i => i ≤ a.edges.length) (fun i => a.edges.length - i) (fun i => [(2, .ptr 0 0 0), (3, .ptr 1 0 0), (15, .val (edgeRows a.edges)), (16, .int .i64 a.edges.length), (17, .int .i64 i)])
    (fun i => [some (.box [.int .i64 0, .int .i64 0, .int .i64 0, .int .i64 0, .snil]), some (.box [.int .i64 a.letters, .int .i64 a.states, .int .i64 a.start, .int .i64 1, .ref 2 0 i]), some (.arr 4 (gedgeRows ((a.edges.take i).map markG)))]) ?_ ?_
  · refine ⟨0, Nat.zero_le _, [some 1, some 2, none], rfl, rfl, And.intro ⟨.inl rfl, .inl rfl, .inl rfl, .inl rfl, .inl rfl, trivial⟩ (And.intro ⟨.inl rfl, .inl rfl, .inl rfl, .inl rfl, ⟨rfl, rfl, rfl⟩, trivial⟩ (And.intro rfl trivial)), ?_⟩
    exact ⟨rfl, rfl, .inl rfl, .inl (congrArg (fun x : Nat => AV.int .i64 x) hle), .inl rfl, trivial⟩
  intro i hi
  have hti : (gedgeRows ((a.edges.take i).map markG)).length = i := by simp; omega
  refine vc2_sound hR _ _ _ _ _ ?_
  by_cases hlt : i < a.edges.length
  · have htm := take_mark (k := i) hlt rfl
    have hat := edge_at hlt
    generalize a.edges.getD i default = e at *
    obtain ⟨e1, e2, e3, e4⟩ := e
    cases e4
    all_goals
      conv => whnf
      repeat' ((first | contradiction | (refine And.intro (fun hb => ?_) (fun hb => ?_) <;> first | contradiction | ((try simp only [SB, reduceCtorEq] at hb); try (exfalso; first | contradiction | omega))) | refine G2 ?_ | rw [ints_at (by omega)] | rw [ints_at0 (by omega)] | rw [ints_at' (by omega) (by omega)] | refine G1 ?_ | rw [hat] | fail) <;> conv => whnf)
      refine ⟨i + 1, hlt, by omega, [some 0, some 1, some 5], rfl, rfl, And.intro ⟨.inl rfl, .inl rfl, .inl rfl, .inl rfl, .inl rfl, trivial⟩ (And.intro ⟨.inl rfl, .inl rfl, .inl rfl, .inl rfl, rfl, trivial⟩ (And.intro ⟨rfl, htm⟩ trivial)), ?_⟩
      exact ⟨rfl, rfl, .inl rfl, .inl rfl, .inl rfl, trivial⟩
  · obtain rfl : i = a.edges.length := by omega
    conv => whnf
    repeat' ((first | contradiction | (refine And.intro (fun hb => ?_) (fun hb => ?_) <;> first | contradiction | ((try simp only [SB, reduceCtorEq] at hb); try (exfalso; first | contradiction | omega))) | refine G2 ?_ | rw [ints_at (by omega)] | rw [ints_at0 (by omega)] | rw [ints_at' (by omega) (by omega)] | refine G1 ?_ | fail) <;> conv => whnf)
    refine ⟨.inl rfl, ?_⟩
    conv => whnf
    refine ⟨Nat.le_refl 5, [some 2], ⟨rfl, And.intro ⟨rfl, ?_⟩ trivial⟩, ⟨.inl rfl, .inl rfl, .inl rfl, .inl rfl, congrArg (AV.ref 2 0) (length_genOfD a).symm, trivial⟩, rfl, by simp [AObj.nov, gedgeRows_nov]⟩
    rw [List.take_length]
    rfl
def c_impl_Word_places : ICode := (.seq (.reg [Ol 2 .mv [ci 0]]) (.seq (.drw [O1 3 .mv 0, O1 4 .nck 3, O1 5 (.fadr 0) 4, O1 6 .ld1 5, O1 7 .len 6, O1 8 .mv 0, O1 9 .nck 8, O1 10 (.fadr 1) 9, O1 11 .ld1 10, O1 12 .len 11, O2 13 (.bin .add) 7 12, O1 2 .mv 13] (unB [0, 1, 3, 7, 15, 0, 32, 96, 224, 480, 1023, 2047] 0) true true) .ret))
theorem b_impl_Word_places : Body Try.prog 105 14 c_impl_Word_places [(.t 2)] := body_mk Try.func105 (by kernel_rfl) (by decide)
def c_impl_Word_letter : ICode := (.seq (.reg [Ol 4 .mv [ci 0]]) (.seq (.seq (.reg [O1 5 .mv 1, O1 6 .mv 0, O1 7 .nck 6, O1 8 (.fadr 0) 7, O1 9 .ld1 8, O1 10 .len 9, O2 11 (.bin .lss) 5 10]) (.cond (.t 11) (.seq (.reg [O1 12 .mv 0, O1 13 .nck 12, O1 14 (.fadr 0) 13, O1 15 .ld1 14, O1 16 .mv 1, O2 17 (.iadr 1) 15 16, O1 18 .ld1 17, O1 4 .mv 18]) .ret) .skip)) (.seq (.drw [O1 19 .mv 0, O1 20 .nck 19, O1 21 (.fadr 1) 20, O1 22 .ld1 21, O1 23 .mv 1, O1 24 .mv 0, O1 25 .nck 24, O1 26 (.fadr 0) 25, O1 27 .ld1 26, O1 28 .len 27, O2 29 (.bin .sub) 23 28, O2 30 (.iadr 1) 22 29, O1 31 .ld1 30, O1 4 .mv 31] (unB [0, 1, 3, 7, 0, 0, 32, 96, 224, 480, 1008, 2047, 4095, 8191] 0) true true) .ret)))
theorem b_impl_Word_letter : Body Try.prog 96 32 c_impl_Word_letter [(.t 4)] := body_mk Try.func96 (by kernel_rfl) (by decide)
def c_impl_Word_next : ICode := (.seq (.reg [Ol 4 .mv [ci 0]]) (.seq (.seq (.reg [O1 5 .mv 1, Ol 6 (.bin .add) [.t 5, ci 1], O1 7 .mv 0, O1 8 (.call 105) 7, O2 9 (.bin .eql) 6 8]) (.cond (.t 9) (.seq (.reg [O1 10 .mv 0, O1 11 .nck 10, O1 12 (.fadr 0) 11, O1 13 .ld1 12, O1 14 .len 13, O1 4 .mv 14]) .ret) .skip)) (.seq (.reg [O1 15 .mv 1, Ol 16 (.bin .add) [.t 15, ci 1], O1 4 .mv 16]) .ret)))
theorem b_impl_Word_next : Body Try.prog 97 17 c_impl_Word_next [(.t 4)] := body_mk Try.func97 (by kernel_rfl) (by decide)
def c_impl_pointsBy : ICode := (.seq (.reg [O1 5 (.box 2) 2, Ol 6 .mv [.c .pnil]]) (.seq (.reg [O1 11 (.call 105) 5, O1 12 .mv 0, O2 13 (.bin .mul) 11 12, O1 14 (.call 174) 13, O1 7 .mv 14]) (.seq (.seq (.reg [O1 15 (.call 105) 5, Ol 16 .mv [ci 0]]) (.block 0 (.loop (.seq (.reg [O2 17 (.bin .lss) 16 15]) (.seq (.cond (.t 17) .skip (.exit 0)) (.seq (.block 1 (.seq (.reg [O1 18 .mv 16, O1 8 .mv 18]) (.seq (.reg [O1 19 .mv 1, O1 20 .len 19, Ol 21 .mv [ci 0]]) (.block 2 (.loop (.seq (.reg [O2 22 (.bin .lss) 21 20]) (.seq (.cond (.t 22) .skip (.exit 2)) (.seq (.block 3 (.seq (.reg [O2 23 (.iadr 4) 19 21, O1 24 (.ldn 4) 23, O0 10 (.alc [(.int .i64 0), (.int .i64 0), (.int .i64 0), (.int .i64 0)]), S2 (.st 4) 10 24]) (.seq (.drw [O1 25 (.fadr 1) 10, O1 26 .ld1 25, O1 27 .mv 8, O2 28 (.call 96) 5 27, O2 29 (.bin .eql) 26 28] (unB [0, 1, 0, 4, 15] 0) true true) (.cond (.t 29) (.drw [O1 30 .mv 7, O1 31 .mv 8, O1 32 .mv 0, O2 33 (.bin .mul) 31 32, O1 34 (.fadr 0) 10, O1 35 .ld1 34, O2 36 (.bin .add) 33 35, O1 37 .mv 8, O2 38 (.call 97) 5 37, O1 39 .mv 0, O2 40 (.bin .mul) 38 39, O1 41 (.fadr 2) 10, O1 42 .ld1 41, O2 43 (.bin .add) 40 42, O1 44 (.fadr 3) 10, O1 45 .ld1 44, Ol 46 (.call 175) [.t 30, .t 36, .t 43, .t 45]] (unB [0, 0, 0, 6, 0, 16, 62, 0, 128, 0, 896, 0, 2048, 8064, 0, 16384, 65535] 0) true true) .skip)))) (.reg [Ol 47 (.bin .add) [.t 21, ci 1], O1 21 .mv 47]))))))))) (.reg [Ol 48 (.bin .add) [.t 16, ci 1], O1 16 .mv 48]))))))) (.seq (.reg [O1 49 .mv 7, O1 6 .mv 49]) .ret))))
theorem b_impl_pointsBy : Body Try.prog 101 50 c_impl_pointsBy [(.t 6)] := body_mk Try.func101 (by kernel_rfl) (by decide)
abbrev wordP (s l : List Int) : AV := .rptr [.val (ints s), .val (ints l)] 0
def letN (s l : List Int) (p : Nat) : Int := if p < s.length then s.getD p 0 else l.getD (p - s.length) 0
def nextN (s l : List Int) (p : Nat) : Nat := if p + 1 = s.length + l.length then s.length else p + 1
theorem nextN_lt {s l : List Int} {p : Nat} (hp : p < s.length + l.length) (hl : 0 < l.length) : nextN s l p < s.length + l.length := by
  unfold nextN; split <;> omega
def RPlaces (xs : List AV) (r : AV) (objs : List AObj) : Prop := ∃ s l, xs = [wordP s l] ∧ s.length ≤ 1000 ∧ l.length ≤ 1000 ∧ r = .int .i64 ((s.length + l.length : Nat) : Int) ∧ objs = []
theorem RPlaces_eq {xs : List AV} {s l : List Int} (hx : xs = [wordP s l]) (h1 : s.length ≤ 1000) (h2 : l.length ≤ 1000) : RPlaces xs (.int .i64 ((s.length + l.length : Nat) : Int)) [] := ⟨s, l, hx, h1, h2, rfl, rfl⟩
theorem s_impl_places : PureSound Try.prog 105 RPlaces := by
  have hR : Rely Try.prog (ctxOf []) := rely_nil mixed
  refine pure_of_aw b_impl_Word_places ?_
  rintro xs r objs ⟨s, l, rfl, h1, h2, rfl, rfl⟩ -
  have hs := length_ints s
  have hl := length_ints l
  refine ⟨by simp, vc2_sound hR _ _ _ _ _ ?_⟩
  conv => whnf
  repeat' ((first | contradiction | (refine And.intro (fun hb => ?_) (fun hb => ?_) <;> first | contradiction | ((try simp only [SB, reduceCtorEq] at hb); try (exfalso; first | contradiction | omega))) | refine G2 ?_ | rw [ints_at (by omega)] | rw [ints_at0 (by omega)] | rw [ints_at' (by omega) (by omega)] | refine G1 ?_ | fail) <;> conv => whnf)
  refine ⟨.inl rfl, ?_⟩
  conv => whnf
  refine ⟨[], ⟨rfl, trivial⟩, ?_, rfl, rfl⟩
  conv => whnf
  left
  conv => lhs; whnf
  exact congrArg (AV.int .i64) (by omega)
def RLetter (xs : List AV) (r : AV) (objs : List AObj) : Prop := ∃ (s l : List Int) (p : Nat), xs = [wordP s l, .int .i64 ((p : Nat) : Int)] ∧ s.length ≤ 1000 ∧ l.length ≤ 1000 ∧ p < s.length + l.length ∧ r = .int .i64 (letN s l p) ∧ objs = []
theorem RLetter_eq {xs : List AV} {s l : List Int} {p : Nat} (hx : xs = [wordP s l, .int .i64 ((p : Nat) : Int)]) (h1 : s.length ≤ 1000) (h2 : l.length ≤ 1000) (h3 : p < s.length + l.length) : RLetter xs (.int .i64 (letN s l p)) [] := ⟨s, l, p, hx, h1, h2, h3, rfl, rfl⟩
theorem s_impl_letter : PureSound Try.prog 96 RLetter := by
  have hR : Rely Try.prog (ctxOf []) := rely_nil mixed
  refine pure_of_aw b_impl_Word_letter ?_
  rintro xs r objs ⟨s, l, p, rfl, h1, h2, h3, rfl, rfl⟩ -
  have hs := length_ints s
  have hl := length_ints l
  refine ⟨by simp, vc2_sound hR _ _ _ _ _ ?_⟩
  by_cases hp : p < s.length
  · conv => whnf
    repeat' ((first | contradiction | (refine And.intro (fun hb => ?_) (fun hb => ?_) <;> first | contradiction | ((try simp only [SB, reduceCtorEq] at hb); try (exfalso; first | contradiction | omega))) | refine G2 ?_ | rw [ints_at (by omega)] | rw [ints_at0 (by omega)] | rw [ints_at' (by omega) (by omega)] | refine G1 ?_ | fail) <;> conv => whnf)
    refine ⟨.inl rfl, ?_⟩
    conv => whnf
    refine ⟨[], ⟨rfl, trivial⟩, ?_, rfl, rfl⟩
    conv => whnf
    left
    conv => lhs; whnf
    exact congrArg (AV.int .i64) (by unfold letN; rw [if_pos hp])
  · have hat : (ints l)[(((p : Nat) : Int) - ((ints s).length : Nat)).toNat]? = some [.int .i64 (l.getD (p - s.length) 0)] := by
      rw [hs, show (((p : Nat) : Int) - ((s.length : Nat) : Int)).toNat = (((p - s.length : Nat) : Nat) : Int).toNat by omega, ints_at (by omega)]
    conv => whnf
    repeat' ((first | contradiction | (refine And.intro (fun hb => ?_) (fun hb => ?_) <;> first | contradiction | ((try simp only [SB, reduceCtorEq] at hb); try (exfalso; first | contradiction | omega))) | refine G2 ?_ | rw [ints_at (by omega)] | rw [ints_at0 (by omega)] | rw [ints_at' (by omega) (by omega)] | refine G1 ?_ | rw [hat] | fail) <;> conv => whnf)
    refine ⟨.inl rfl, ?_⟩
    conv => whnf
    refine ⟨[], ⟨rfl, trivial⟩, ?_, rfl, rfl⟩
    conv => whnf
    left
    conv => lhs; whnf
    exact congrArg (AV.int .i64) (by unfold letN; rw [if_neg hp]; congr 1; omega)
def RNextP (xs : List AV) (r : AV) (objs : List AObj) : Prop := ∃ (s l : List Int) (p : Nat), xs = [wordP s l, .int .i64 ((p : Nat) : Int)] ∧ s.length ≤ 1000 ∧ l.length ≤ 1000 ∧ p < s.length + l.length ∧ r = .int .i64 ((nextN s l p : Nat) : Int) ∧ objs = []
theorem RNextP_eq {xs : List AV} {s l : List Int} {p : Nat} (hx : xs = [wordP s l, .int .i64 ((p : Nat) : Int)]) (h1 : s.length ≤ 1000) (h2 : l.length ≤ 1000) (h3 : p < s.length + l.length) : RNextP xs (.int .i64 ((nextN s l p : Nat) : Int)) [] := ⟨s, l, p, hx, h1, h2, h3, rfl, rfl⟩
theorem s_impl_next : PureSound Try.prog 97 RNextP := by
  have hR : Rely Try.prog (ctxOf [(105, .pure RPlaces)]) := rely_cons b_impl_Word_places.has s_impl_places (rely_nil mixed)
  refine pure_of_aw b_impl_Word_next ?_
  rintro xs r objs ⟨s, l, p, rfl, h1, h2, h3, rfl, rfl⟩ -
  have hs := length_ints s
  refine ⟨by simp, vc2_sound hR _ _ _ _ _ ?_⟩
  conv => whnf
  repeat' ((first | contradiction | (refine And.intro (fun hb => ?_) (fun hb => ?_) <;> first | contradiction | ((try simp only [SB, reduceCtorEq] at hb); try (exfalso; first | contradiction | omega))) | refine G2 ?_ | rw [ints_at (by omega)] | rw [ints_at0 (by omega)] | rw [ints_at' (by omega) (by omega)] | refine G1 ?_ | refine ⟨_, _, RPlaces_eq rfl h1 h2, ?_⟩ | fail) <;> conv => whnf)
  · refine ⟨.inl rfl, ?_⟩
    conv => whnf
    refine ⟨[], ⟨rfl, trivial⟩, ?_, rfl, rfl⟩
    conv => whnf
    left
    conv => lhs; whnf
    exact congrArg (AV.int .i64) (by unfold nextN; rw [if_pos (by omega)]; omega)
  · refine ⟨.inl rfl, ?_⟩
    conv => whnf
    refine ⟨[], ⟨rfl, trivial⟩, ?_, rfl, rfl⟩
    conv => whnf
    left
    conv => lhs; whnf
    exact congrArg (AV.int .i64) (by unfold nextN; rw [if_neg (by omega)]; omega)
def ptTrip (n : Nat) (s l : List Int) (p : Nat) (e : GEdgeD) : Trip := (p * n + e.src.toNat, nextN s l p * n + e.dst.toNat, e.marks)
def ptTrips (n : Nat) (s l : List Int) (es : List GEdgeD) (p : Nat) : List Trip := (es.filter fun e => e.letter == letN s l p).map (ptTrip n s l p)
def ptAll (n : Nat) (s l : List Int) (es : List GEdgeD) (p : Nat) : List Trip := (List.range p).flatMap (ptTrips n s l es)
def ptsG (n : Nat) (s l : List Int) (es : List GEdgeD) : GraphD := mkG ((s.length + l.length) * n) (ptAll n s l es (s.length + l.length))
theorem ptAll_succ {n : Nat} {s l : List Int} {es : List GEdgeD} {p : Nat} : ptAll n s l es (p + 1) = ptAll n s l es p ++ ptTrips n s l es p := by simp [ptAll, List.range_succ]
theorem ptTrips_succ {n : Nat} {s l : List Int} {es : List GEdgeD} {p i : Nat} (h : i < es.length) : ptTrips n s l (es.take (i + 1)) p = ptTrips n s l (es.take i) p ++ if (es.getD i default).letter = letN s l p then [ptTrip n s l p (es.getD i default)] else [] := by
  unfold ptTrips
  rw [take_succ_D h, List.filter_append, List.map_append]
  congr 1
  generalize es.getD i default = e
  by_cases hl : e.letter = letN s l p
  · rw [if_pos hl, List.filter_cons, if_pos (by simpa using hl)]; rfl
  · rw [if_neg hl, List.filter_cons, if_neg (by simpa using hl)]; rfl
theorem ptTrips_len {n : Nat} {s l : List Int} {es : List GEdgeD} {p : Nat} : (ptTrips n s l es p).length ≤ es.length := by
  unfold ptTrips; rw [List.length_map]; exact List.length_filter_le _ _
theorem ptAll_len {n : Nat} {s l : List Int} {es : List GEdgeD} : ∀ p, (ptAll n s l es p).length ≤ p * es.length
  | 0 => by simp [ptAll]
  | p + 1 => by
    rw [ptAll_succ, List.length_append, Nat.add_mul, Nat.one_mul]
    exact Nat.add_le_add (ptAll_len p) ptTrips_len
def EdgesIn (n : Nat) (es : List GEdgeD) : Prop := ∀ i, i < es.length → (0 ≤ (es.getD i default).src ∧ (es.getD i default).src < n) ∧ (0 ≤ (es.getD i default).dst ∧ (es.getD i default).dst < n)
def RPoints (xs : List AV) (r : AV) (objs : List AObj) : Prop := ∃ (n : Nat) (es : List GEdgeD) (s l : List Int), xs = [.int .i64 ((n : Nat) : Int), .val (gedgeRows es), .agg [.val (ints s), .val (ints l)]] ∧ n ≤ 64 ∧ es.length ≤ 2000 ∧ EdgesIn n es ∧ s.length ≤ 100 ∧ l.length ≤ 100 ∧ 0 < l.length ∧
  r = .ptr 0 0 0 ∧ objs = [gBox 1 ((s.length + l.length) * n), gNst (ptsG n s l es)]
theorem GAdd_nv : ∀ xs objs Q, GAdd xs objs Q → ∃ r out, Q r out := by
  rintro xs objs Q ⟨G, n, f, t, m, _, _, _, _, _, _, _, hq⟩
  exact ⟨_, _, hq⟩
set_option maxHeartbeats 8000000 in
theorem s_impl_pointsBy : PureSound Try.prog 101 RPoints := by
  have hR : Rely Try.prog (ctxOf [(174, .pure RGraphOf), (175, .gen 2 GAdd), (105, .pure RPlaces), (96, .pure RLetter), (97, .pure RNextP)]) :=
    rely_cons b_impl_graphOf.has s_impl_graphOf (rely_cons b_impl_graph_add.has s_impl_add (rely_cons b_impl_Word_places.has s_impl_places (rely_cons b_impl_Word_letter.has s_impl_letter (rely_cons b_impl_Word_next.has s_impl_next (rely_nil mixed)))))
  refine pure_of_aw b_impl_pointsBy ?_
  rintro xs r objs ⟨n, es, s, l, rfl, hn, hes, hin, hs, hl, hl0, rfl, rfl⟩ -
  have hel := length_gedgeRows es
  have hmul : (s.length + l.length) * n ≤ 200 * 64 := Nat.mul_le_mul (by omega) hn
  have hcast : ((s.length + l.length : Nat) : Int) * ((n : Nat) : Int) = (((s.length + l.length) * n : Nat) : Int) := by simp
  generalize hN : (s.length + l.length) * n = N at *
  refine ⟨by simp, vc2_sound hR _ _ _ _ _ ?_⟩
  conv => whnf
  repeat' ((first | contradiction | (refine And.intro (fun hb => ?_) (fun hb => ?_) <;> first | contradiction | ((try simp only [SB, reduceCtorEq] at hb); try (exfalso; first | contradiction | omega))) | refine G2 ?_ | rw [ints_at (by omega)] | rw [ints_at0 (by omega)] | rw [ints_at' (by omega) (by omega)] | refine G1 ?_ | refine ⟨_, _, RPlaces_eq rfl (by omega) (by omega), ?_⟩ | rw [hcast] | refine ⟨_, _, RGraphOf_mk (by omega), ?_⟩ | fail) <;> conv => whnf)
  refine Lp.intro (α := Nat) (fun p => p ≤ s.length + l.length) (fun p => s.length + l.length - p) (fun p => [(0, .int .i64 n), (1, .val (gedgeRows es)), (5, wordP s l), (7, .ptr 0 0 0), (15, .int .i64 ((s.length + l.length : Nat) : Int)), (16, .int .i64 p)]) (fun p => [some (gBox 1 N), some (gNst (mkG N (ptAll n s l es p)))]) ?_ ?_
  · refine ⟨0, Nat.zero_le _, [some 1, some 2], rfl, rfl, And.intro ⟨rfl, trivial⟩ (And.intro ⟨rfl, ?_⟩ trivial), ?_⟩
    · simp [ptAll, mkG_nil]
    · exact ⟨.inl rfl, .inl rfl, .inr rfl, rfl, .inl rfl, .inl rfl, trivial⟩
  intro p hp
  refine vc2_sound hR _ _ _ _ _ ?_
  by_cases hlt : p < s.length + l.length
  · conv => whnf
    repeat' ((first | contradiction | (refine And.intro (fun hb => ?_) (fun hb => ?_) <;> first | contradiction | ((try simp only [SB, reduceCtorEq] at hb); try (exfalso; first | contradiction | omega))) | refine G2 ?_ | rw [ints_at (by omega)] | rw [ints_at0 (by omega)] | rw [ints_at' (by omega) (by omega)] | refine G1 ?_ | fail) <;> conv => whnf)
    refine Lp.intro (α := Nat) (fun i => i ≤ es.length) (fun i => es.length - i) (fun i => [(0, .int .i64 n), (1, .val (gedgeRows es)), (5, wordP s l), (7, .ptr 0 0 0), (8, .int .i64 p), (15, .int .i64 ((s.length + l.length : Nat) : Int)), (16, .int .i64 p), (19, .val (gedgeRows es)), (20, .int .i64 es.length), (21, .int .i64 i)])
      (fun i => [some (gBox 1 N), some (gNst (mkG N (ptAll n s l es p ++ ptTrips n s l (es.take i) p)))]) ?_ ?_
    · refine ⟨0, Nat.zero_le _, [some 0, some 1], rfl, rfl, And.intro ⟨rfl, trivial⟩ (And.intro ⟨rfl, ?_⟩ trivial), ?_⟩
      · simp [ptTrips]
      · exact ⟨.inl rfl, .inl rfl, .inl rfl, rfl, .inl rfl, .inl rfl, .inl rfl, .inl rfl, .inl (congrArg (fun x : Nat => AV.int .i64 x) hel), .inl rfl, trivial⟩
    intro i hi
    have hV : CtxNV (ctxOf [(174, .pure RGraphOf), (175, .gen 2 GAdd), (105, .pure RPlaces), (96, .pure RLetter), (97, .pure RNextP)]) :=
      nv_pure (nv_gen GAdd_nv (nv_pure (nv_pure (nv_pure nvNil))))
    refine vc3_sound hR hV _ _ _ _ _ ?_
    by_cases hil : i < es.length
    · have he := hin i hil
      have hat := gedge_at hil
      have hts := ptTrips_succ (n := n) (s := s) (l := l) (p := p) hil
      have hsm := mkG_small (n := N) (x := (((p : Nat) : Int) * ((n : Nat) : Int) + (es.getD i default).src).toNat) (l := ptAll n s l es p ++ ptTrips n s l (es.take i) p)
      have hln := ptAll_len (n := n) (s := s) (l := l) (es := es) p
      have hlt2 := ptTrips_len (n := n) (s := s) (l := l) (es := es.take i) (p := p)
      have hml := length_mkG N (ptAll n s l es p ++ ptTrips n s l (es.take i) p)
      have hnx := nextN_lt hlt hl0
      have hprod : ∀ x, x < s.length + l.length → 0 ≤ ((x : Nat) : Int) * ((n : Nat) : Int) ∧ ((x : Nat) : Int) * ((n : Nat) : Int) + n ≤ N := fun x hx => by
        have h1 : (x + 1) * n ≤ (s.length + l.length) * n := Nat.mul_le_mul_right n hx
        rw [hN, Nat.add_mul, Nat.one_mul] at h1
        rw [← Int.natCast_mul]
        omega
      have hp1 := hprod p hlt
      have hp2 := hprod _ hnx
      have hsz : (ptAll n s l es p ++ ptTrips n s l (es.take i) p).length ≤ 1000000 := by
        rw [List.length_append]
        have h1 : p * es.length ≤ 200 * 2000 := Nat.mul_le_mul (by omega) hes
        rw [List.length_take] at hlt2
        omega
      have hadd : (es.getD i default).letter = letN s l p → gAdd (mkG N (ptAll n s l es p ++ ptTrips n s l (es.take i) p)) (((p : Nat) : Int) * ((n : Nat) : Int) + (es.getD i default).src).toNat (((nextN s l p : Nat) : Int) * ((n : Nat) : Int) + (es.getD i default).dst).toNat (es.getD i default).marks =
          mkG N (ptAll n s l es p ++ ptTrips n s l (es.take (i + 1)) p) := fun h => by
        rw [gAdd_mkG (by omega), hts, if_pos h, List.append_assoc]
        congr 3
        unfold ptTrip
        rw [← Int.natCast_mul, ← Int.natCast_mul] at *
        rw [show (((p * n : Nat) : Int) + (es.getD i default).src).toNat = p * n + (es.getD i default).src.toNat by omega, show (((nextN s l p * n : Nat) : Int) + (es.getD i default).dst).toNat = nextN s l p * n + (es.getD i default).dst.toNat by omega]
      have hkeep : ¬ (es.getD i default).letter = letN s l p → ptTrips n s l (es.take (i + 1)) p = ptTrips n s l (es.take i) p := fun h => by rw [hts, if_neg h, List.append_nil]
      clear hts
      generalize es.getD i default = e at *
      conv => whnf
      repeat' ((first | contradiction | (refine And.intro (fun hb => ?_) (fun hb => ?_) <;> first | contradiction | ((try simp only [SB, reduceCtorEq] at hb); try (exfalso; first | contradiction | omega))) | refine G2 ?_ | rw [ints_at (by omega)] | rw [ints_at0 (by omega)] | rw [ints_at' (by omega) (by omega)] | refine G1 ?_ | rw [hat] | refine ⟨_, _, RLetter_eq rfl (by omega) (by omega) hlt, ?_⟩ | refine ⟨_, _, RNextP_eq rfl (by omega) (by omega) hlt, ?_⟩ | refine ⟨GAdd_mk hml (by omega) (by omega) (by omega) (by omega) ?_⟩ | fail) <;> conv => whnf)
      · have hb2 := hadd (by assumption)
        refine ⟨i + 1, hil, by omega, [some 0, some 1], rfl, rfl, And.intro ⟨rfl, trivial⟩ (And.intro ⟨rfl, congrArg gOwns hb2⟩ trivial), ?_⟩
        exact ⟨.inl rfl, .inl rfl, .inl rfl, rfl, .inl rfl, .inl rfl, .inl rfl, .inl rfl, .inl rfl, .inl rfl, trivial⟩
      · have hb2 := hkeep (by assumption)
        refine ⟨i + 1, hil, by omega, [some 0, some 1], rfl, rfl, And.intro ⟨rfl, trivial⟩ (And.intro ⟨rfl, by rw [hb2]⟩ trivial), ?_⟩
        exact ⟨.inl rfl, .inl rfl, .inl rfl, rfl, .inl rfl, .inl rfl, .inl rfl, .inl rfl, .inl rfl, .inl rfl, trivial⟩
    · obtain rfl : i = es.length := by omega
      conv => whnf
      repeat' ((first | contradiction | (refine And.intro (fun hb => ?_) (fun hb => ?_) <;> first | contradiction | ((try simp only [SB, reduceCtorEq] at hb); try (exfalso; first | contradiction | omega))) | refine G2 ?_ | rw [ints_at (by omega)] | rw [ints_at0 (by omega)] | rw [ints_at' (by omega) (by omega)] | refine G1 ?_ | fail) <;> conv => whnf)
      refine ⟨p + 1, hlt, by omega, [some 0, some 1], rfl, rfl, And.intro ⟨rfl, trivial⟩ (And.intro ⟨rfl, ?_⟩ trivial), ?_⟩
      · rw [List.take_length, ptAll_succ]
      · exact ⟨.inl rfl, .inl rfl, .inl rfl, rfl, .inl rfl, .inl rfl, trivial⟩
  · obtain rfl : p = s.length + l.length := by omega
    conv => whnf
    repeat' ((first | contradiction | (refine And.intro (fun hb => ?_) (fun hb => ?_) <;> first | contradiction | ((try simp only [SB, reduceCtorEq] at hb); try (exfalso; first | contradiction | omega))) | refine G2 ?_ | rw [ints_at (by omega)] | rw [ints_at0 (by omega)] | rw [ints_at' (by omega) (by omega)] | refine G1 ?_ | fail) <;> conv => whnf)
    refine ⟨.inl rfl, ?_⟩
    conv => whnf
    refine ⟨[some 0, some 1], ⟨rfl, And.intro ⟨rfl, trivial⟩ (And.intro ⟨rfl, ?_⟩ trivial)⟩, rfl, rfl, by simp [AObj.nov, gOwns_nov, AV.novs, AV.nov]⟩
    unfold ptsG
    rw [hN]
def c_spec_l6Places : ICode := (.seq (.reg [O1 1 (.box 2) 0, Ol 2 .mv [ci 0]]) (.seq (.reg [O1 3 (.fadr 0) 1, O1 4 .ld1 3, O1 5 .len 4, O1 6 (.fadr 1) 1, O1 7 .ld1 6, O1 8 .len 7, O2 9 (.bin .add) 5 8, O1 2 .mv 9]) .ret))
theorem b_spec_l6Places : Body Try.prog 91 10 c_spec_l6Places [(.t 2)] := body_mk Try.func91 (by kernel_rfl) (by decide)
def c_spec_l6After : ICode := (.seq (.reg [O1 2 (.box 2) 0, Ol 4 .mv [ci 0]]) (.seq (.seq (.reg [O1 5 .mv 1, Ol 6 (.bin .add) [.t 5, ci 1], O1 7 (.ldn 2) 2, O1 8 (.call 91) 7, O2 9 (.bin .eql) 6 8]) (.cond (.t 9) (.seq (.reg [O1 10 (.fadr 0) 2, O1 11 .ld1 10, O1 12 .len 11, O1 4 .mv 12]) .ret) .skip)) (.seq (.reg [O1 13 .mv 1, Ol 14 (.bin .add) [.t 13, ci 1], O1 4 .mv 14]) .ret)))
theorem b_spec_l6After : Body Try.prog 92 15 c_spec_l6After [(.t 4)] := body_mk Try.func92 (by kernel_rfl) (by decide)
def c_spec_l3At : ICode := (.seq (.reg [O1 2 (.box 2) 0, Ol 4 .mv [ci 0]]) (.seq (.seq (.reg [O1 5 .mv 1, O1 6 (.fadr 0) 2, O1 7 .ld1 6, O1 8 .len 7, O2 9 (.bin .lss) 5 8]) (.cond (.t 9) (.seq (.reg [O1 10 (.fadr 0) 2, O1 11 .ld1 10, O1 12 .mv 1, O2 13 (.iadr 1) 11 12, O1 14 .ld1 13, O1 4 .mv 14]) .ret) .skip)) (.seq (.drw [O1 15 (.fadr 1) 2, O1 16 .ld1 15, O1 17 .mv 1, O1 18 (.fadr 0) 2, O1 19 .ld1 18, O1 20 .len 19, O2 21 (.bin .sub) 17 20, O1 22 (.fadr 1) 2, O1 23 .ld1 22, O1 24 .len 23, O2 25 (.bin .rem) 21 24, O2 26 (.iadr 1) 16 25, O1 27 .ld1 26, O1 4 .mv 27] (unB [0, 1, 0, 0, 8, 24, 60, 0, 128, 384, 1020, 2047, 4095, 8191] 0) true true) .ret)))
theorem b_spec_l3At : Body Try.prog 93 28 c_spec_l3At [(.t 4)] := body_mk Try.func93 (by kernel_rfl) (by decide)
abbrev wordV (s l : List Int) : AV := .agg [.val (ints s), .val (ints l)]
def RPlacesS (xs : List AV) (r : AV) (objs : List AObj) : Prop := ∃ s l, xs = [wordV s l] ∧ s.length ≤ 1000 ∧ l.length ≤ 1000 ∧ r = .int .i64 ((s.length + l.length : Nat) : Int) ∧ objs = []
theorem RPlacesS_eq {xs : List AV} {s l : List Int} (hx : xs = [wordV s l]) (h1 : s.length ≤ 1000) (h2 : l.length ≤ 1000) : RPlacesS xs (.int .i64 ((s.length + l.length : Nat) : Int)) [] := ⟨s, l, hx, h1, h2, rfl, rfl⟩
theorem s_spec_l6Places : PureSound Try.prog 91 RPlacesS := by
  have hR : Rely Try.prog (ctxOf []) := rely_nil mixed
  refine pure_of_aw b_spec_l6Places ?_
  rintro xs r objs ⟨s, l, rfl, h1, h2, rfl, rfl⟩ -
  have hs := length_ints s
  have hl := length_ints l
  refine ⟨by simp, vc2_sound hR _ _ _ _ _ ?_⟩
  conv => whnf
  repeat' ((first | contradiction | (refine And.intro (fun hb => ?_) (fun hb => ?_) <;> first | contradiction | ((try simp only [SB, reduceCtorEq] at hb); try (exfalso; first | contradiction | omega))) | refine G2 ?_ | rw [ints_at (by omega)] | rw [ints_at0 (by omega)] | rw [ints_at' (by omega) (by omega)] | refine G1 ?_ | fail) <;> conv => whnf)
  refine ⟨.inl rfl, ?_⟩
  conv => whnf
  refine ⟨[], ⟨rfl, trivial⟩, ?_, rfl, rfl⟩
  conv => whnf
  left
  conv => lhs; whnf
  exact congrArg (AV.int .i64) (by omega)
def RAfter (xs : List AV) (r : AV) (objs : List AObj) : Prop := ∃ (s l : List Int) (p : Nat), xs = [wordV s l, .int .i64 ((p : Nat) : Int)] ∧ s.length ≤ 1000 ∧ l.length ≤ 1000 ∧ p < s.length + l.length ∧ r = .int .i64 ((nextN s l p : Nat) : Int) ∧ objs = []
theorem RAfter_eq {xs : List AV} {s l : List Int} {p : Nat} (hx : xs = [wordV s l, .int .i64 ((p : Nat) : Int)]) (h1 : s.length ≤ 1000) (h2 : l.length ≤ 1000) (h3 : p < s.length + l.length) : RAfter xs (.int .i64 ((nextN s l p : Nat) : Int)) [] := ⟨s, l, p, hx, h1, h2, h3, rfl, rfl⟩
theorem s_spec_l6After : PureSound Try.prog 92 RAfter := by
  have hR : Rely Try.prog (ctxOf [(91, .pure RPlacesS)]) := rely_cons b_spec_l6Places.has s_spec_l6Places (rely_nil mixed)
  refine pure_of_aw b_spec_l6After ?_
  rintro xs r objs ⟨s, l, p, rfl, h1, h2, h3, rfl, rfl⟩ -
  have hs := length_ints s
  refine ⟨by simp, vc2_sound hR _ _ _ _ _ ?_⟩
  conv => whnf
  repeat' ((first | contradiction | (refine And.intro (fun hb => ?_) (fun hb => ?_) <;> first | contradiction | ((try simp only [SB, reduceCtorEq] at hb); try (exfalso; first | contradiction | omega))) | refine G2 ?_ | rw [ints_at (by omega)] | rw [ints_at0 (by omega)] | rw [ints_at' (by omega) (by omega)] | refine G1 ?_ | refine ⟨_, _, RPlacesS_eq rfl h1 h2, ?_⟩ | fail) <;> conv => whnf)
  · refine ⟨.inl rfl, ?_⟩
    conv => whnf
    refine ⟨[], ⟨rfl, trivial⟩, ?_, rfl, rfl⟩
    conv => whnf
    left
    conv => lhs; whnf
    exact congrArg (AV.int .i64) (by unfold nextN; rw [if_pos (by omega)]; omega)
  · refine ⟨.inl rfl, ?_⟩
    conv => whnf
    refine ⟨[], ⟨rfl, trivial⟩, ?_, rfl, rfl⟩
    conv => whnf
    left
    conv => lhs; whnf
    exact congrArg (AV.int .i64) (by unfold nextN; rw [if_neg (by omega)]; omega)
def RL3At (xs : List AV) (r : AV) (objs : List AObj) : Prop := ∃ (s l : List Int) (p : Nat), xs = [wordV s l, .int .i64 ((p : Nat) : Int)] ∧ s.length ≤ 1000 ∧ l.length ≤ 1000 ∧ p < s.length + l.length ∧ r = .int .i64 (letN s l p) ∧ objs = []
theorem RL3At_eq {xs : List AV} {s l : List Int} {p : Nat} (hx : xs = [wordV s l, .int .i64 ((p : Nat) : Int)]) (h1 : s.length ≤ 1000) (h2 : l.length ≤ 1000) (h3 : p < s.length + l.length) : RL3At xs (.int .i64 (letN s l p)) [] := ⟨s, l, p, hx, h1, h2, h3, rfl, rfl⟩
theorem s_spec_l3At : PureSound Try.prog 93 RL3At := by
  have hR : Rely Try.prog (ctxOf []) := rely_nil mixed
  refine pure_of_aw b_spec_l3At ?_
  rintro xs r objs ⟨s, l, p, rfl, h1, h2, h3, rfl, rfl⟩ -
  have hs := length_ints s
  have hl := length_ints l
  refine ⟨by simp, vc2_sound hR _ _ _ _ _ ?_⟩
  by_cases hp : p < s.length
  · conv => whnf
    repeat' ((first | contradiction | (refine And.intro (fun hb => ?_) (fun hb => ?_) <;> first | contradiction | ((try simp only [SB, reduceCtorEq] at hb); try (exfalso; first | contradiction | omega))) | refine G2 ?_ | rw [ints_at (by omega)] | rw [ints_at0 (by omega)] | rw [ints_at' (by omega) (by omega)] | refine G1 ?_ | fail) <;> conv => whnf)
    refine ⟨.inl rfl, ?_⟩
    conv => whnf
    refine ⟨[], ⟨rfl, trivial⟩, ?_, rfl, rfl⟩
    conv => whnf
    left
    conv => lhs; whnf
    exact congrArg (AV.int .i64) (by unfold letN; rw [if_pos hp])
  · have hm : Int.tmod (((p : Nat) : Int) - ((ints s).length : Nat)) ((ints l).length : Nat) = (((p - s.length : Nat) : Nat) : Int) := by
      rw [hs, hl, show ((p : Nat) : Int) - ((s.length : Nat) : Int) = ((p - s.length : Nat) : Int) by omega]
      exact Int.tmod_eq_of_lt (by omega) (by omega)
    conv => whnf
    repeat' ((first | contradiction | (refine And.intro (fun hb => ?_) (fun hb => ?_) <;> first | contradiction | ((try simp only [SB, reduceCtorEq] at hb); try (exfalso; first | contradiction | omega))) | refine G2 ?_ | rw [ints_at (by omega)] | rw [ints_at0 (by omega)] | rw [ints_at' (by omega) (by omega)] | refine G1 ?_ | rw [hm] | fail) <;> conv => whnf)
    refine ⟨.inl rfl, ?_⟩
    conv => whnf
    refine ⟨[], ⟨rfl, trivial⟩, ?_, rfl, rfl⟩
    conv => whnf
    left
    conv => lhs; whnf
    exact congrArg (AV.int .i64) (by unfold letN; rw [if_neg hp, Int.toNat_natCast])
end Go.Proofs.Ythanhknkoikbfaa.Ct
