/- Draws: the cursor, numbers drawn. Nothing is told of what is drawn but its bounds. -/
import Derived.Test.YtpfbkblgefddlaaCtRead2
import Derived.Test.YtpfbkblgefddlaaCtBits
import Derived.Test.YtpfbkblgefddlaaAvVc3
namespace Go.Proofs.Ytpfbkblgefddlaa.Ct
set_option linter.unusedSimpArgs false
set_option linter.unusedVariables false
open Go Go.Proofs Go.Proofs.Ytpfbkblgefddlaa.Av

/-- a cursor over the bytes of a draw -/
abbrev curO (code : List UInt8) (i : Nat) (h : Int) : AObj := .box [.val (code.map byteRow), .int .i64 i, .int .i64 h]

theorem and_255 (a : Int) : 0 ≤ IntKind.i64.wrap (BitVec.ofInt IntKind.i64.bits a &&& BitVec.ofInt IntKind.i64.bits 255).toNat ∧
    IntKind.i64.wrap (BitVec.ofInt IntKind.i64.bits a &&& BitVec.ofInt IntKind.i64.bits 255).toNat ≤ 255 := by
  have hb : IntKind.i64.bits = 64 := rfl
  rw [hb, BitVec.toNat_and]
  have h255 : (BitVec.ofInt 64 255).toNat = 255 := by decide
  rw [h255]
  have : (BitVec.ofInt 64 a).toNat &&& 255 ≤ 255 := Nat.and_le_right
  rw [IntWalk.i64_in _ (by omega)]
  omega

theorem nvNil : CtxNV (ctxOf []) := fun f k G h => by simp [ctxOf] at h
theorem nv_pure {g : Nat} {R : List AV → AV → List AObj → Prop} {l : List (Nat × Av.Spec)} (h : CtxNV (ctxOf l)) : CtxNV (ctxOf ((g, .pure R) :: l)) := by
  intro f k G hf
  simp only [ctxOf] at hf
  split at hf
  · cases hf
  · exact h f k G hf
theorem nv_gen {g k0 : Nat} {G0 : GFun} {l : List (Nat × Av.Spec)} (h0 : ∀ xs objs Q, G0 xs objs Q → ∃ r out, Q r out) (h : CtxNV (ctxOf l)) : CtxNV (ctxOf ((g, .gen k0 G0) :: l)) := by
  intro f k G hf
  simp only [ctxOf] at hf
  split at hf
  · cases hf; exact h0
  · exact h f k G hf

def c_spec_l1New : ICode := (.seq (.reg [⟨(some 2), .mv, [(.c .pnil)], none⟩]) (.seq (.reg [⟨(some 5), .mv, [(.t 0)], none⟩, ⟨(some 6), .len, [(.t 5)], none⟩, ⟨(some 7), (.bin .add), [(.c (.int .i64 10277)), (.t 6)], none⟩, ⟨(some 3), .mv, [(.t 7)], none⟩]) (.seq (.seq (.reg [⟨(some 4), .mv, [(.c (.int .i64 0))], none⟩]) (.block 0 (.loop (.seq (.seq (.reg [⟨(some 8), .mv, [(.t 4)], none⟩, ⟨(some 9), .mv, [(.t 0)], none⟩, ⟨(some 10), .len, [(.t 9)], none⟩, ⟨(some 11), (.bin .lss), [(.t 8), (.t 10)], none⟩, ⟨(some 12), .mv, [(.t 11)], none⟩, ⟨(some 13), .mv, [(.t 4)], (some (12, true))⟩, ⟨(some 14), (.bin .lss), [(.t 13), (.c (.int .i64 4000))], (some (12, true))⟩, ⟨(some 15), .pick, [(.t 12), (.t 14), (.c (.bool false))], none⟩]) (.cond (.t 15) .skip (.exit 0))) (.seq (.block 1 (.reg [⟨(some 18), .mv, [(.t 3)], none⟩, ⟨(some 19), (.bin .mul), [(.t 18), (.c (.int .i64 131))], none⟩, ⟨(some 20), .mv, [(.t 0)], none⟩, ⟨(some 21), .mv, [(.t 4)], none⟩, ⟨(some 22), (.iadr 1), [(.t 20), (.t 21)], none⟩, ⟨(some 23), .ld1, [(.t 22)], none⟩, ⟨(some 24), (.cvt .i64), [(.t 23)], none⟩, ⟨(some 25), (.bin .add), [(.t 19), (.t 24)], none⟩, ⟨(some 26), (.bin .add), [(.t 25), (.c (.int .i64 7))], none⟩, ⟨(some 27), (.bin .and), [(.t 26), (.c (.int .i64 1073741823))], none⟩, ⟨(some 3), .mv, [(.t 27)], none⟩])) (.reg [⟨(some 16), .mv, [(.t 4)], none⟩, ⟨(some 17), (.bin .add), [(.t 16), (.c (.int .i64 1))], none⟩, ⟨(some 4), .mv, [(.t 17)], none⟩])))))) (.seq (.reg [⟨(some 28), .mv, [(.t 0)], none⟩, ⟨(some 29), .mv, [(.t 3)], none⟩, ⟨(some 30), (.bld [.snil, (.int .i64 0), (.int .i64 0)] [(0, 1), (2, 1)]), [(.t 28), (.t 29)], none⟩, ⟨(some 31), (.box 3), [(.t 30)], none⟩, ⟨(some 2), .mv, [(.t 31)], none⟩]) .ret))))
theorem b_spec_l1New : Body Try.prog 82 32 c_spec_l1New [(.t 2)] := by
  have h1 : comp Try.prog 32 (Try.f82.body.getD .skip) = some c_spec_l1New := by kernel_rfl
  have h2 : Try.f82.body = some (Try.f82.body.getD .skip) := by kernel_rfl
  have h3 : Try.f82.results.toList.map (cRes Try.prog) = [(some (.t 2))] := by kernel_rfl
  exact ⟨_, _, Try.func82, h2, Try.ntmps82, h1, h3, by decide⟩

def c_spec_l1Byte : ICode := (.seq (.reg [⟨(some 2), .mv, [(.c (.int .i64 0))], none⟩]) (.seq (.reg [⟨(some 4), .mv, [(.t 0)], none⟩, ⟨(some 5), .mv, [(.t 0)], none⟩, ⟨(some 6), .nck, [(.t 5)], none⟩, ⟨(some 7), (.fadr 2), [(.t 6)], none⟩, ⟨(some 8), .ld1, [(.t 7)], none⟩, ⟨(some 9), (.bin .mul), [(.t 8), (.c (.int .i64 6364136223846793005))], none⟩, ⟨(some 10), (.bin .add), [(.t 9), (.c (.int .i64 1442695040888963407))], none⟩, ⟨(some 11), .nck, [(.t 4)], none⟩, ⟨(some 12), (.fadr 2), [(.t 11)], none⟩, ⟨none, (.st 1), [(.t 12), (.t 10)], none⟩]) (.seq (.drw [⟨(some 13), .mv, [(.t 0)], none⟩, ⟨(some 14), .nck, [(.t 13)], none⟩, ⟨(some 15), (.fadr 2), [(.t 14)], none⟩, ⟨(some 16), .ld1, [(.t 15)], none⟩, ⟨(some 17), (.bin .shr), [(.t 16), (.c (.int .u64 33))], none⟩, ⟨(some 18), .mv, [(.t 0)], none⟩, ⟨(some 19), .nck, [(.t 18)], none⟩, ⟨(some 20), (.fadr 2), [(.t 19)], none⟩, ⟨(some 21), .ld1, [(.t 20)], none⟩, ⟨(some 22), (.bin .shr), [(.t 21), (.c (.int .u64 45))], none⟩, ⟨(some 23), (.bin .xor), [(.t 17), (.t 22)], none⟩, ⟨(some 24), (.bin .and), [(.t 23), (.c (.int .i64 255))], none⟩, ⟨(some 3), .mv, [(.t 24)], none⟩] [[], [0], [0, 1], [0, 1, 2], [0, 1, 2, 3], [], [5], [5, 6], [5, 6, 7], [5, 6, 7, 8], [0, 1, 2, 3, 4, 5, 6, 7, 8, 9], [0, 1, 2, 3, 4, 5, 6, 7, 8, 9, 10], [0, 1, 2, 3, 4, 5, 6, 7, 8, 9, 10, 11]] true true) (.seq (.seq (.drw [⟨(some 25), .mv, [(.t 0)], none⟩, ⟨(some 26), .nck, [(.t 25)], none⟩, ⟨(some 27), (.fadr 1), [(.t 26)], none⟩, ⟨(some 28), .ld1, [(.t 27)], none⟩, ⟨(some 29), .mv, [(.t 0)], none⟩, ⟨(some 30), .nck, [(.t 29)], none⟩, ⟨(some 31), (.fadr 0), [(.t 30)], none⟩, ⟨(some 32), .ld1, [(.t 31)], none⟩, ⟨(some 33), .len, [(.t 32)], none⟩, ⟨(some 34), (.bin .lss), [(.t 28), (.t 33)], none⟩] [[], [0], [0, 1], [0, 1, 2], [], [4], [4, 5], [4, 5, 6], [4, 5, 6, 7], [0, 1, 2, 3, 4, 5, 6, 7, 8]] true true) (.cond (.t 34) (.seq (.drw [⟨(some 35), .mv, [(.t 3)], none⟩, ⟨(some 36), .mv, [(.t 0)], none⟩, ⟨(some 37), .nck, [(.t 36)], none⟩, ⟨(some 38), (.fadr 0), [(.t 37)], none⟩, ⟨(some 39), .ld1, [(.t 38)], none⟩, ⟨(some 40), .mv, [(.t 0)], none⟩, ⟨(some 41), .nck, [(.t 40)], none⟩, ⟨(some 42), (.fadr 1), [(.t 41)], none⟩, ⟨(some 43), .ld1, [(.t 42)], none⟩, ⟨(some 44), (.iadr 1), [(.t 39), (.t 43)], none⟩, ⟨(some 45), .ld1, [(.t 44)], none⟩, ⟨(some 46), (.cvt .i64), [(.t 45)], none⟩, ⟨(some 47), (.bin .add), [(.t 35), (.t 46)], none⟩, ⟨(some 48), (.bin .and), [(.t 47), (.c (.int .i64 255))], none⟩, ⟨(some 3), .mv, [(.t 48)], none⟩] [[], [], [1], [1, 2], [1, 2, 3], [], [5], [5, 6], [5, 6, 7], [1, 2, 3, 4, 5, 6, 7, 8], [1, 2, 3, 4, 5, 6, 7, 8, 9], [1, 2, 3, 4, 5, 6, 7, 8, 9, 10], [0, 1, 2, 3, 4, 5, 6, 7, 8, 9, 10, 11], [0, 1, 2, 3, 4, 5, 6, 7, 8, 9, 10, 11, 12], [0, 1, 2, 3, 4, 5, 6, 7, 8, 9, 10, 11, 12, 13]] true true) (.reg [⟨(some 49), .mv, [(.t 0)], none⟩, ⟨(some 50), .mv, [(.t 0)], none⟩, ⟨(some 51), .nck, [(.t 50)], none⟩, ⟨(some 52), (.fadr 1), [(.t 51)], none⟩, ⟨(some 53), .ld1, [(.t 52)], none⟩, ⟨(some 54), (.bin .add), [(.t 53), (.c (.int .i64 1))], none⟩, ⟨(some 55), .nck, [(.t 49)], none⟩, ⟨(some 56), (.fadr 1), [(.t 55)], none⟩, ⟨none, (.st 1), [(.t 56), (.t 54)], none⟩])) .skip)) (.seq (.reg [⟨(some 57), .mv, [(.t 3)], none⟩, ⟨(some 2), .mv, [(.t 57)], none⟩]) .ret)))))
theorem b_spec_l1Byte : Body Try.prog 141 58 c_spec_l1Byte [(.t 2)] := by
  have h1 : comp Try.prog 58 (Try.f141.body.getD .skip) = some c_spec_l1Byte := by kernel_rfl
  have h2 : Try.f141.body = some (Try.f141.body.getD .skip) := by kernel_rfl
  have h3 : Try.f141.results.toList.map (cRes Try.prog) = [(some (.t 2))] := by kernel_rfl
  exact ⟨_, _, Try.func141, h2, Try.ntmps141, h1, h3, by decide⟩

def c_spec_l1Below : ICode := (.seq (.reg [⟨(some 4), .mv, [(.c (.int .i64 0))], none⟩]) (.seq (.seq (.reg [⟨(some 9), .mv, [(.t 1)], none⟩, ⟨(some 10), (.bin .leq), [(.t 9), (.c (.int .i64 0))], none⟩]) (.cond (.t 10) (.seq (.reg [⟨(some 4), .mv, [(.c (.int .i64 0))], none⟩]) .ret) .skip)) (.seq (.seq (.reg [⟨(some 11), .mv, [(.t 1)], none⟩, ⟨(some 12), (.bin .leq), [(.t 11), (.c (.int .i64 256))], none⟩]) (.cond (.t 12) (.seq (.reg [⟨(some 13), .mv, [(.t 0)], none⟩, ⟨(some 14), (.call 141), [(.t 13)], none⟩, ⟨(some 15), .mv, [(.t 1)], none⟩, ⟨(some 16), (.bin .rem), [(.t 14), (.t 15)], none⟩, ⟨(some 4), .mv, [(.t 16)], none⟩]) .ret) .skip)) (.seq (.reg [⟨(some 17), .mv, [(.t 0)], none⟩, ⟨(some 18), (.call 141), [(.t 17)], none⟩, ⟨(some 5), .mv, [(.t 18)], none⟩]) (.seq (.reg [⟨(some 19), .mv, [(.t 0)], none⟩, ⟨(some 20), (.call 141), [(.t 19)], none⟩, ⟨(some 6), .mv, [(.t 20)], none⟩]) (.seq (.reg [⟨(some 21), .mv, [(.t 0)], none⟩, ⟨(some 22), (.call 141), [(.t 21)], none⟩, ⟨(some 7), .mv, [(.t 22)], none⟩]) (.seq (.reg [⟨(some 23), .mv, [(.t 0)], none⟩, ⟨(some 24), (.call 141), [(.t 23)], none⟩, ⟨(some 8), .mv, [(.t 24)], none⟩]) (.seq (.reg [⟨(some 25), .mv, [(.t 5)], none⟩, ⟨(some 26), (.bin .mul), [(.t 25), (.c (.int .i64 16777216))], none⟩, ⟨(some 27), .mv, [(.t 6)], none⟩, ⟨(some 28), (.bin .mul), [(.t 27), (.c (.int .i64 65536))], none⟩, ⟨(some 29), (.bin .add), [(.t 26), (.t 28)], none⟩, ⟨(some 30), .mv, [(.t 7)], none⟩, ⟨(some 31), (.bin .mul), [(.t 30), (.c (.int .i64 256))], none⟩, ⟨(some 32), (.bin .add), [(.t 29), (.t 31)], none⟩, ⟨(some 33), .mv, [(.t 8)], none⟩, ⟨(some 34), (.bin .add), [(.t 32), (.t 33)], none⟩, ⟨(some 35), .mv, [(.t 1)], none⟩, ⟨(some 36), (.bin .rem), [(.t 34), (.t 35)], none⟩, ⟨(some 4), .mv, [(.t 36)], none⟩]) .ret))))))))
theorem b_spec_l1Below : Body Try.prog 87 37 c_spec_l1Below [(.t 4)] := by
  have h1 : comp Try.prog 37 (Try.f87.body.getD .skip) = some c_spec_l1Below := by kernel_rfl
  have h2 : Try.f87.body = some (Try.f87.body.getD .skip) := by kernel_rfl
  have h3 : Try.f87.results.toList.map (cRes Try.prog) = [(some (.t 4))] := by kernel_rfl
  exact ⟨_, _, Try.func87, h2, Try.ntmps87, h1, h3, by decide⟩

def c_spec_l1Once : ICode := (.seq (.reg [⟨(some 4), .mv, [(.c (.bool false))], none⟩]) (.seq (.reg [⟨(some 5), .mv, [(.t 0)], none⟩, ⟨(some 6), .mv, [(.t 1)], none⟩, ⟨(some 7), (.call 87), [(.t 5), (.t 6)], none⟩, ⟨(some 8), (.bin .eql), [(.t 7), (.c (.int .i64 0))], none⟩, ⟨(some 4), .mv, [(.t 8)], none⟩]) .ret))
theorem b_spec_l1Once : Body Try.prog 85 9 c_spec_l1Once [(.t 4)] := by
  have h1 : comp Try.prog 9 (Try.f85.body.getD .skip) = some c_spec_l1Once := by kernel_rfl
  have h2 : Try.f85.body = some (Try.f85.body.getD .skip) := by kernel_rfl
  have h3 : Try.f85.results.toList.map (cRes Try.prog) = [(some (.t 4))] := by kernel_rfl
  exact ⟨_, _, Try.func85, h2, Try.ntmps85, h1, h3, by decide⟩

def c_spec_l1PickInt : ICode := (.seq (.reg [⟨(some 4), .mv, [(.c (.int .i64 0))], none⟩]) (.seq (.reg [⟨(some 5), .mv, [(.t 1)], none⟩, ⟨(some 6), .mv, [(.t 0)], none⟩, ⟨(some 7), .mv, [(.t 1)], none⟩, ⟨(some 8), .len, [(.t 7)], none⟩, ⟨(some 9), (.call 87), [(.t 6), (.t 8)], none⟩, ⟨(some 10), (.iadr 1), [(.t 5), (.t 9)], none⟩, ⟨(some 11), .ld1, [(.t 10)], none⟩, ⟨(some 4), .mv, [(.t 11)], none⟩]) .ret))
theorem b_spec_l1PickInt : Body Try.prog 136 12 c_spec_l1PickInt [(.t 4)] := by
  have h1 : comp Try.prog 12 (Try.f136.body.getD .skip) = some c_spec_l1PickInt := by kernel_rfl
  have h2 : Try.f136.body = some (Try.f136.body.getD .skip) := by kernel_rfl
  have h3 : Try.f136.results.toList.map (cRes Try.prog) = [(some (.t 4))] := by kernel_rfl
  exact ⟨_, _, Try.func136, h2, Try.ntmps136, h1, h3, by decide⟩

def c_spec_l1Pick : ICode := (.seq (.reg [⟨(some 4), .mv, [(.c (.str []))], none⟩]) (.seq (.reg [⟨(some 5), .mv, [(.t 1)], none⟩, ⟨(some 6), .mv, [(.t 0)], none⟩, ⟨(some 7), .mv, [(.t 1)], none⟩, ⟨(some 8), .len, [(.t 7)], none⟩, ⟨(some 9), (.call 87), [(.t 6), (.t 8)], none⟩, ⟨(some 10), (.iadr 1), [(.t 5), (.t 9)], none⟩, ⟨(some 11), .ld1, [(.t 10)], none⟩, ⟨(some 4), .mv, [(.t 11)], none⟩]) .ret))
theorem b_spec_l1Pick : Body Try.prog 106 12 c_spec_l1Pick [(.t 4)] := by
  have h1 : comp Try.prog 12 (Try.f106.body.getD .skip) = some c_spec_l1Pick := by kernel_rfl
  have h2 : Try.f106.body = some (Try.f106.body.getD .skip) := by kernel_rfl
  have h3 : Try.f106.results.toList.map (cRes Try.prog) = [(some (.t 4))] := by kernel_rfl
  exact ⟨_, _, Try.func106, h2, Try.ntmps106, h1, h3, by decide⟩

def c_spec_l3DrawLetters : ICode := (.seq (.reg [⟨(some 6), .mv, [(.c .snil)], none⟩]) (.seq (.reg [⟨(some 10), .bsle, [], none⟩, ⟨(some 7), .mv, [(.t 10)], none⟩]) (.seq (.reg [⟨(some 11), .mv, [(.t 0)], none⟩, ⟨(some 12), .mv, [(.t 1)], none⟩, ⟨(some 13), (.bin .add), [(.t 12), (.c (.int .i64 1))], none⟩, ⟨(some 14), (.call 87), [(.t 11), (.t 13)], none⟩, ⟨(some 8), .mv, [(.t 14)], none⟩]) (.seq (.seq (.reg [⟨(some 9), .mv, [(.c (.int .i64 0))], none⟩]) (.block 0 (.loop (.seq (.seq (.reg [⟨(some 15), .mv, [(.t 9)], none⟩, ⟨(some 16), .mv, [(.t 8)], none⟩, ⟨(some 17), (.bin .lss), [(.t 15), (.t 16)], none⟩]) (.cond (.t 17) .skip (.exit 0))) (.seq (.block 1 (.reg [⟨(some 20), .mv, [(.t 7)], none⟩, ⟨(some 21), .mv, [(.t 0)], none⟩, ⟨(some 22), .mv, [(.t 2)], none⟩, ⟨(some 23), (.call 87), [(.t 21), (.t 22)], none⟩, ⟨(some 24), (.bslv 1), [(.t 23)], none⟩, ⟨(some 25), (.app 1 8), [(.t 20), (.t 24)], none⟩, ⟨(some 7), .mv, [(.t 25)], none⟩])) (.reg [⟨(some 18), .mv, [(.t 9)], none⟩, ⟨(some 19), (.bin .add), [(.t 18), (.c (.int .i64 1))], none⟩, ⟨(some 9), .mv, [(.t 19)], none⟩])))))) (.seq (.reg [⟨(some 26), .mv, [(.t 7)], none⟩, ⟨(some 6), .mv, [(.t 26)], none⟩]) .ret)))))
theorem b_spec_l3DrawLetters : Body Try.prog 137 27 c_spec_l3DrawLetters [(.t 6)] := by
  have h1 : comp Try.prog 27 (Try.f137.body.getD .skip) = some c_spec_l3DrawLetters := by kernel_rfl
  have h2 : Try.f137.body = some (Try.f137.body.getD .skip) := by kernel_rfl
  have h3 : Try.f137.results.toList.map (cRes Try.prog) = [(some (.t 6))] := by kernel_rfl
  exact ⟨_, _, Try.func137, h2, Try.ntmps137, h1, h3, by decide⟩


def GNew : GFun := fun xs objs Q => ∃ code : List UInt8, xs = [.val (code.map byteRow)] ∧ objs = [] ∧ code.length ≤ 1048576 ∧ ∀ h, Q (.ptr 0 0 0) [some (curO code 0 h)]
theorem GNew_mk {code : List UInt8} {Q : AV → List (Option AObj) → Prop} (h1 : code.length ≤ 1048576) (hq : ∀ h, Q (.ptr 0 0 0) [some (curO code 0 h)]) : GNew [.val (code.map byteRow)] [] Q := ⟨code, rfl, rfl, h1, hq⟩

theorem s_spec_l1New : GenSound Try.prog 82 0 GNew := by
  have hR : Rely Try.prog (ctxOf []) := rely_nil mixed
  refine gen_of_aw b_spec_l1New ?_
  rintro xs objs Q - ⟨code, rfl, rfl, h1, hq⟩ -
  have hbl : (code.map byteRow).length = code.length := by simp
  refine ⟨by simp, vc2_sound hR _ _ _ _ _ ?_⟩
  conv => whnf
  repeat' (first
    | (refine And.intro (fun hb => ?_) (fun hb => ?_)
       all_goals (try simp only [decide_eq_true_eq, decide_eq_false_iff_not, Bool.not_eq_true', Bool.not_eq_false', Bool.not_not, ne_eq, length_ints, List.length_map, beq_iff_eq, bne_iff_ne, beq_eq_false_iff_ne, bne_eq_false_iff_eq, Int.not_le, Int.not_lt, ge_iff_le, gt_iff_lt, reduceCtorEq, not_false_eq_true, not_true_eq_false, Bool.false_eq_true, Bool.true_eq_false] at hb)
       all_goals (try (exfalso; omega))
       all_goals conv => whnf)
    | (refine And.intro (live_all rfl) ?_; conv => whnf)
    | (refine And.intro rfl ?_; conv => whnf)
    | (refine ⟨_, IntWalk.i64_in _ (by omega), ?_⟩; conv => whnf)
    | (refine And.intro (okcs_all rfl) ?_; conv => whnf)
    | (refine And.intro (okvs_all rfl) ?_; conv => whnf)
    | (refine And.intro (frees_all rfl) ?_; conv => whnf)
    | (refine And.intro (bsl_all rfl) ?_; conv => whnf)
    | (refine And.intro (lens_all rfl) ?_; conv => whnf)
    | (refine And.intro (Nat.le_of_ble_eq_true rfl) ?_; conv => whnf)
    | (rw [ints_at (by omega)]; conv => whnf)
    | (rw [ints_at0 (by omega)]; conv => whnf)
    | (rw [ints_at' (by omega) (by omega)]; conv => whnf)
    | (refine And.intro (show (_ + 1) * _ ≤ _ by omega) ?_; conv => whnf)
    | (refine And.intro (show _ + 1 ≤ _ by omega) ?_; conv => whnf)
    | (refine And.intro (by first | omega | (simp only [length_ints]; omega)) ?_; conv => whnf)
    | fail)
  generalize (10277 : Int) + ((List.map byteRow code).length : Int) = x0
  refine Lp.intro (α := Nat × Int) (fun a => a.1 ≤ code.length) (fun a => code.length - a.1) (fun a => [(0, .val (code.map byteRow)), (3, .int .i64 a.2), (4, .int .i64 a.1)]) (fun _ => []) ?_ ?_
  · refine ⟨(0, x0), Nat.zero_le _, [], rfl, rfl, trivial, ?_⟩
    exact And.intro (.inl rfl) (And.intro (.inl rfl) (And.intro (.inl rfl) trivial))
  · rintro ⟨i, x⟩ hi
    dsimp only at hi ⊢
    refine vc2_sound hR _ _ _ _ _ ?_
    have h8 := byte_le (code.getD i 0)
    conv => whnf
    repeat' (first
      | (refine And.intro (fun hb => ?_) (fun hb => ?_)
         all_goals (try simp only [decide_eq_true_eq, decide_eq_false_iff_not, Bool.not_eq_true', Bool.not_eq_false', Bool.not_not, ne_eq, length_ints, List.length_map, beq_iff_eq, bne_iff_ne, beq_eq_false_iff_ne, bne_eq_false_iff_eq, Int.not_le, Int.not_lt, ge_iff_le, gt_iff_lt, reduceCtorEq, not_false_eq_true, not_true_eq_false, Bool.false_eq_true, Bool.true_eq_false] at hb)
         all_goals (try (exfalso; omega))
         all_goals conv => whnf)
      | (refine And.intro (live_all rfl) ?_; conv => whnf)
      | (refine And.intro rfl ?_; conv => whnf)
      | (refine ⟨_, IntWalk.i64_in _ (by omega), ?_⟩; conv => whnf)
      | (refine And.intro (okcs_all rfl) ?_; conv => whnf)
      | (refine And.intro (okvs_all rfl) ?_; conv => whnf)
      | (refine And.intro (frees_all rfl) ?_; conv => whnf)
      | (refine And.intro (bsl_all rfl) ?_; conv => whnf)
      | (refine And.intro (lens_all rfl) ?_; conv => whnf)
      | (refine And.intro (Nat.le_of_ble_eq_true rfl) ?_; conv => whnf)
      | (rw [ints_at (by omega)]; conv => whnf)
      | (rw [ints_at0 (by omega)]; conv => whnf)
      | (rw [ints_at' (by omega) (by omega)]; conv => whnf)
      | (refine And.intro (show (_ + 1) * _ ≤ _ by omega) ?_; conv => whnf)
      | (refine And.intro (show _ + 1 ≤ _ by omega) ?_; conv => whnf)
      | (refine And.intro (by first | omega | (simp only [length_ints]; omega)) ?_; conv => whnf)
      | (rw [byte_at (by omega)]; conv => whnf)
      | (refine ⟨_, rfl, ?_⟩; conv => whnf)
      | fail)
    · refine ⟨(i + 1, IntKind.i64.wrap (BitVec.ofInt IntKind.i64.bits (IntKind.i64.wrap (IntKind.i64.wrap (IntKind.i64.wrap (x * 131) + (code.getD i 0).toNat) + 7)) &&& BitVec.ofInt IntKind.i64.bits 1073741823).toNat), by dsimp only; omega, by dsimp only; omega, [], rfl, rfl, trivial, ?_⟩
      exact And.intro (.inl rfl) (And.intro (.inl rfl) (And.intro (.inl rfl) trivial))
    all_goals
      refine ⟨.inl rfl, ?_⟩
      conv => whnf
      exact ⟨[some 0], .ptr 0 0 0, [some (curO code 0 x)], ⟨rfl, And.intro (And.intro (.inl rfl) (And.intro (.inl rfl) (And.intro (.inl rfl) trivial))) trivial⟩, rfl, rfl, hq _⟩

def GByte : GFun := fun xs objs Q => ∃ (code : List UInt8) (i : Nat) (h : Int), xs = [.ptr 0 0 0] ∧ objs = [curO code i h] ∧ i ≤ code.length ∧ code.length ≤ 1048576 ∧
  ∀ (x : Int) (i' : Nat) (h' : Int), 0 ≤ x → x ≤ 255 → i' ≤ code.length → Q (.int .i64 x) [some (curO code i' h')]
theorem GByte_mk {code : List UInt8} {i : Nat} {h : Int} {Q : AV → List (Option AObj) → Prop} (h1 : i ≤ code.length) (h2 : code.length ≤ 1048576)
    (hq : ∀ (x : Int) (i' : Nat) (h' : Int), 0 ≤ x → x ≤ 255 → i' ≤ code.length → Q (.int .i64 x) [some (curO code i' h')]) : GByte [.ptr 0 0 0] [curO code i h] Q := ⟨code, i, h, rfl, rfl, h1, h2, hq⟩
theorem GByte_nv (xs : List AV) (objs : List AObj) (Q : AV → List (Option AObj) → Prop) (h : GByte xs objs Q) : ∃ r out, Q r out := by
  obtain ⟨code, i, h, _, _, _, _, hq⟩ := h
  exact ⟨_, _, hq 0 0 0 (by omega) (by omega) (by omega)⟩

theorem s_spec_l1Byte : GenSound Try.prog 141 1 GByte := by
  have hR : Rely Try.prog (ctxOf []) := rely_nil mixed
  refine gen_of_aw b_spec_l1Byte ?_
  rintro xs objs Q - ⟨code, i, h, rfl, rfl, h1, h2, hq⟩ -
  have hbl : (code.map byteRow).length = code.length := by simp
  refine ⟨by simp, vc2_sound hR _ _ _ _ _ ?_⟩
  conv => whnf
  repeat' (first
    | (refine And.intro (fun hb => ?_) (fun hb => ?_)
       all_goals (try simp only [decide_eq_true_eq, decide_eq_false_iff_not, Bool.not_eq_true', Bool.not_eq_false', Bool.not_not, ne_eq, length_ints, List.length_map, beq_iff_eq, bne_iff_ne, beq_eq_false_iff_ne, bne_eq_false_iff_eq, Int.not_le, Int.not_lt, ge_iff_le, gt_iff_lt, reduceCtorEq, not_false_eq_true, not_true_eq_false, Bool.false_eq_true, Bool.true_eq_false] at hb)
       all_goals (try (exfalso; omega))
       all_goals conv => whnf)
    | (refine And.intro (live_all rfl) ?_; conv => whnf)
    | (refine And.intro rfl ?_; conv => whnf)
    | (refine ⟨_, IntWalk.i64_in _ (by omega), ?_⟩; conv => whnf)
    | (refine And.intro (okcs_all rfl) ?_; conv => whnf)
    | (refine And.intro (okvs_all rfl) ?_; conv => whnf)
    | (refine And.intro (frees_all rfl) ?_; conv => whnf)
    | (refine And.intro (bsl_all rfl) ?_; conv => whnf)
    | (refine And.intro (lens_all rfl) ?_; conv => whnf)
    | (refine And.intro (Nat.le_of_ble_eq_true rfl) ?_; conv => whnf)
    | (rw [ints_at (by omega)]; conv => whnf)
    | (rw [ints_at0 (by omega)]; conv => whnf)
    | (rw [ints_at' (by omega) (by omega)]; conv => whnf)
    | (refine And.intro (show (_ + 1) * _ ≤ _ by omega) ?_; conv => whnf)
    | (refine And.intro (show _ + 1 ≤ _ by omega) ?_; conv => whnf)
    | (refine And.intro (by first | omega | (simp only [length_ints]; omega)) ?_; conv => whnf)
    | (rw [byte_at (by omega)]; conv => whnf)
    | (refine ⟨_, rfl, ?_⟩; conv => whnf)
    | fail)
  · have h255 := and_255
    refine ⟨.inl rfl, ?_⟩
    conv => whnf
    refine ⟨[some 0], .int .i64 _, [some (curO code (i + 1) _)], ⟨rfl, And.intro (And.intro (.inl rfl) (And.intro (.inl rfl) (And.intro (.inl rfl) trivial))) trivial⟩, .inl rfl, rfl, hq _ _ _ (and_255 _).1 (and_255 _).2 (by omega)⟩
  · refine ⟨.inl rfl, ?_⟩
    conv => whnf
    refine ⟨[some 0], .int .i64 _, [some (curO code i _)], ⟨rfl, And.intro (And.intro (.inl rfl) (And.intro (.inl rfl) (And.intro (.inl rfl) trivial))) trivial⟩, .inl rfl, rfl, hq _ _ _ (and_255 _).1 (and_255 _).2 (by omega)⟩

def GBelow : GFun := fun xs objs Q => ∃ (code : List UInt8) (i : Nat) (h n : Int), xs = [.ptr 0 0 0, .int .i64 n] ∧ objs = [curO code i h] ∧ i ≤ code.length ∧ code.length ≤ 1048576 ∧ n ≤ 1073741824 ∧
  ∀ (x : Int) (i' : Nat) (h' : Int), 0 ≤ x → (x < n ∨ (n ≤ 0 ∧ x = 0)) → i' ≤ code.length → Q (.int .i64 x) [some (curO code i' h')]
theorem GBelow_mk {code : List UInt8} {i : Nat} {h n : Int} {Q : AV → List (Option AObj) → Prop} (h1 : i ≤ code.length) (h2 : code.length ≤ 1048576) (h3 : n ≤ 1073741824)
    (hq : ∀ (x : Int) (i' : Nat) (h' : Int), 0 ≤ x → (x < n ∨ (n ≤ 0 ∧ x = 0)) → i' ≤ code.length → Q (.int .i64 x) [some (curO code i' h')]) : GBelow [.ptr 0 0 0, .int .i64 n] [curO code i h] Q := ⟨code, i, h, n, rfl, rfl, h1, h2, h3, hq⟩
theorem GBelow_nv (xs : List AV) (objs : List AObj) (Q : AV → List (Option AObj) → Prop) (h : GBelow xs objs Q) : ∃ r out, Q r out := by
  obtain ⟨code, i, h, n, _, _, _, _, _, hq⟩ := h
  exact ⟨_, _, hq 0 0 0 (by omega) (by omega) (by omega)⟩

theorem tmod_in {a n : Int} (ha : 0 ≤ a) (hn : 0 < n) : 0 ≤ a.tmod n ∧ a.tmod n < n := ⟨Int.tmod_nonneg n ha, Int.tmod_lt_of_pos a hn⟩

theorem s_spec_l1Below : GenSound Try.prog 87 1 GBelow := by
  have hR : Rely Try.prog (ctxOf [(141, .gen 1 GByte)]) := rely_cons b_spec_l1Byte.has s_spec_l1Byte (rely_nil mixed)
  refine gen_of_aw b_spec_l1Below ?_
  rintro xs objs Q - ⟨code, i, h, n, rfl, rfl, h1, h2, h3, hq⟩ -
  refine ⟨by simp, vc2_sound hR _ _ _ _ _ ?_⟩
  conv => whnf
  repeat' (first
    | (refine And.intro (fun hb => ?_) (fun hb => ?_)
       all_goals (try simp only [decide_eq_true_eq, decide_eq_false_iff_not, Bool.not_eq_true', Bool.not_eq_false', Bool.not_not, ne_eq, length_ints, List.length_map, beq_iff_eq, bne_iff_ne, beq_eq_false_iff_ne, bne_eq_false_iff_eq, Int.not_le, Int.not_lt, ge_iff_le, gt_iff_lt, reduceCtorEq, not_false_eq_true, not_true_eq_false, Bool.false_eq_true, Bool.true_eq_false] at hb)
       all_goals (try (exfalso; omega))
       all_goals conv => whnf)
    | (refine And.intro (live_all rfl) ?_; conv => whnf)
    | (refine And.intro rfl ?_; conv => whnf)
    | (refine ⟨_, IntWalk.i64_in _ (by omega), ?_⟩; conv => whnf)
    | (refine And.intro (okcs_all rfl) ?_; conv => whnf)
    | (refine And.intro (okvs_all rfl) ?_; conv => whnf)
    | (refine And.intro (frees_all rfl) ?_; conv => whnf)
    | (refine And.intro (bsl_all rfl) ?_; conv => whnf)
    | (refine And.intro (lens_all rfl) ?_; conv => whnf)
    | (refine And.intro (Nat.le_of_ble_eq_true rfl) ?_; conv => whnf)
    | (rw [ints_at (by omega)]; conv => whnf)
    | (rw [ints_at0 (by omega)]; conv => whnf)
    | (rw [ints_at' (by omega) (by omega)]; conv => whnf)
    | (refine And.intro (show (_ + 1) * _ ≤ _ by omega) ?_; conv => whnf)
    | (refine And.intro (show _ + 1 ≤ _ by omega) ?_; conv => whnf)
    | (refine And.intro (by first | omega | (simp only [length_ints]; omega)) ?_; conv => whnf)
    | (refine ⟨GByte_mk (by omega) (by omega) (fun x i' h' hx0 hx1 hi' => ?_)⟩; conv => whnf)
    | fail)
  · refine ⟨.inl rfl, ?_⟩
    conv => whnf
    refine ⟨[some 0], .int .i64 0, [some (curO code i h)], ⟨rfl, And.intro (And.intro (.inl rfl) (And.intro (.inl rfl) (And.intro (.inl rfl) trivial))) trivial⟩, .inl rfl, rfl, hq 0 i h (by omega) (by omega) (by omega)⟩
  · have ht := tmod_in (a := x) (n := n) (by omega) (by omega)
    refine ⟨.inl rfl, ?_⟩
    conv => whnf
    refine ⟨[some 0], .int .i64 (x.tmod n), [some (curO code i' h')], ⟨rfl, And.intro (And.intro (.inl rfl) (And.intro (.inl rfl) (And.intro (.inl rfl) trivial))) trivial⟩, .inl rfl, rfl, hq _ i' h' (by omega) (by omega) (by omega)⟩
  · rename_i x1 _ _ _ _ _ x2 _ _ _ _ _ x3 _ _ _ _ _
    have ht := tmod_in (a := x1 * 16777216 + x2 * 65536 + x3 * 256 + x) (n := n) (by omega) (by omega)
    refine ⟨.inl rfl, ?_⟩
    conv => whnf
    refine ⟨[some 0], .int .i64 ((x1 * 16777216 + x2 * 65536 + x3 * 256 + x).tmod n), [some (curO code i' h')], ⟨rfl, And.intro (And.intro (.inl rfl) (And.intro (.inl rfl) (And.intro (.inl rfl) trivial))) trivial⟩, .inl rfl, rfl, hq _ i' h' (by omega) (by omega) (by omega)⟩

def GOnce : GFun := fun xs objs Q => ∃ (code : List UInt8) (i : Nat) (h n : Int), xs = [.ptr 0 0 0, .int .i64 n] ∧ objs = [curO code i h] ∧ i ≤ code.length ∧ code.length ≤ 1048576 ∧ n ≤ 1073741824 ∧
  ∀ (b : Bool) (i' : Nat) (h' : Int), i' ≤ code.length → Q (.bool b) [some (curO code i' h')]
theorem GOnce_mk {code : List UInt8} {i : Nat} {h n : Int} {Q : AV → List (Option AObj) → Prop} (h1 : i ≤ code.length) (h2 : code.length ≤ 1048576) (h3 : n ≤ 1073741824)
    (hq : ∀ (b : Bool) (i' : Nat) (h' : Int), i' ≤ code.length → Q (.bool b) [some (curO code i' h')]) : GOnce [.ptr 0 0 0, .int .i64 n] [curO code i h] Q := ⟨code, i, h, n, rfl, rfl, h1, h2, h3, hq⟩

theorem s_spec_l1Once : GenSound Try.prog 85 1 GOnce := by
  have hR : Rely Try.prog (ctxOf [(87, .gen 1 GBelow)]) := rely_cons b_spec_l1Below.has s_spec_l1Below (rely_nil mixed)
  refine gen_of_aw b_spec_l1Once ?_
  rintro xs objs Q - ⟨code, i, h, n, rfl, rfl, h1, h2, h3, hq⟩ -
  refine ⟨by simp, vc2_sound hR _ _ _ _ _ ?_⟩
  conv => whnf
  repeat' (first
    | (refine And.intro (fun hb => ?_) (fun hb => ?_)
       all_goals (try simp only [decide_eq_true_eq, decide_eq_false_iff_not, Bool.not_eq_true', Bool.not_eq_false', Bool.not_not, ne_eq, length_ints, List.length_map, beq_iff_eq, bne_iff_ne, beq_eq_false_iff_ne, bne_eq_false_iff_eq, Int.not_le, Int.not_lt, ge_iff_le, gt_iff_lt, reduceCtorEq, not_false_eq_true, not_true_eq_false, Bool.false_eq_true, Bool.true_eq_false] at hb)
       all_goals (try (exfalso; omega))
       all_goals conv => whnf)
    | (refine And.intro (live_all rfl) ?_; conv => whnf)
    | (refine And.intro rfl ?_; conv => whnf)
    | (refine ⟨_, IntWalk.i64_in _ (by omega), ?_⟩; conv => whnf)
    | (refine And.intro (okcs_all rfl) ?_; conv => whnf)
    | (refine And.intro (okvs_all rfl) ?_; conv => whnf)
    | (refine And.intro (frees_all rfl) ?_; conv => whnf)
    | (refine And.intro (bsl_all rfl) ?_; conv => whnf)
    | (refine And.intro (lens_all rfl) ?_; conv => whnf)
    | (refine And.intro (Nat.le_of_ble_eq_true rfl) ?_; conv => whnf)
    | (rw [ints_at (by omega)]; conv => whnf)
    | (rw [ints_at0 (by omega)]; conv => whnf)
    | (rw [ints_at' (by omega) (by omega)]; conv => whnf)
    | (refine And.intro (show (_ + 1) * _ ≤ _ by omega) ?_; conv => whnf)
    | (refine And.intro (show _ + 1 ≤ _ by omega) ?_; conv => whnf)
    | (refine And.intro (by first | omega | (simp only [length_ints]; omega)) ?_; conv => whnf)
    | (refine ⟨GBelow_mk (by omega) (by omega) (by omega) (fun x i' h' hx0 hx1 hi' => ?_)⟩; conv => whnf)
    | fail)
  all_goals
    refine ⟨.inl rfl, ?_⟩
    conv => whnf
    refine ⟨[some 0], .bool _, [some (curO code i' h')], ⟨rfl, And.intro (And.intro (.inl rfl) (And.intro (.inl rfl) (And.intro (.inl rfl) trivial))) trivial⟩, .inl rfl, rfl, hq _ i' h' hi'⟩

/-- one of a list -/
def GPickInt : GFun := fun xs objs Q => ∃ (code : List UInt8) (i : Nat) (h : Int) (l : List Int), xs = [.ptr 0 0 0, .ref 1 0 l.length] ∧ objs = [curO code i h, .arr 1 (ints l)] ∧ i ≤ code.length ∧ code.length ≤ 1048576 ∧ 0 < l.length ∧ l.length ≤ 1000 ∧
  ∀ (j : Nat) (i' : Nat) (h' : Int), j < l.length → i' ≤ code.length → Q (.int .i64 (l.getD j 0)) [some (curO code i' h'), some (.arr 1 (ints l))]
theorem GPickInt_mk {code : List UInt8} {i : Nat} {h : Int} {l : List Int} {Q : AV → List (Option AObj) → Prop} (h1 : i ≤ code.length) (h2 : code.length ≤ 1048576) (h3 : 0 < l.length) (h4 : l.length ≤ 1000)
    (hq : ∀ (j : Nat) (i' : Nat) (h' : Int), j < l.length → i' ≤ code.length → Q (.int .i64 (l.getD j 0)) [some (curO code i' h'), some (.arr 1 (ints l))]) : GPickInt [.ptr 0 0 0, .ref 1 0 l.length] [curO code i h, .arr 1 (ints l)] Q :=
  ⟨code, i, h, l, rfl, rfl, h1, h2, h3, h4, hq⟩

theorem ints_atI {l : List Int} {x : Int} (h0 : 0 ≤ x) (h1 : x < l.length) : (ints l)[0 + x.toNat]? = some [.int .i64 (l.getD x.toNat 0)] := by
  rw [Nat.zero_add]
  have hx : x.toNat < l.length := by omega
  simp [ints, List.getElem?_eq_getElem hx, List.getD_eq_getElem?_getD]

theorem s_spec_l1PickInt : GenSound Try.prog 136 2 GPickInt := by
  have hR : Rely Try.prog (ctxOf [(87, .gen 1 GBelow)]) := rely_cons b_spec_l1Below.has s_spec_l1Below (rely_nil mixed)
  refine gen_of_aw b_spec_l1PickInt ?_
  rintro xs objs Q - ⟨code, i, h, l, rfl, rfl, h1, h2, h3, h4, hq⟩ -
  have hil : (ints l).length = l.length := length_ints l
  refine ⟨by simp, vc2_sound hR _ _ _ _ _ ?_⟩
  conv => whnf
  repeat' (first
    | (refine And.intro (fun hb => ?_) (fun hb => ?_)
       all_goals (try simp only [decide_eq_true_eq, decide_eq_false_iff_not, Bool.not_eq_true', Bool.not_eq_false', Bool.not_not, ne_eq, length_ints, List.length_map, beq_iff_eq, bne_iff_ne, beq_eq_false_iff_ne, bne_eq_false_iff_eq, Int.not_le, Int.not_lt, ge_iff_le, gt_iff_lt, reduceCtorEq, not_false_eq_true, not_true_eq_false, Bool.false_eq_true, Bool.true_eq_false] at hb)
       all_goals (try (exfalso; omega))
       all_goals conv => whnf)
    | (refine And.intro (live_all rfl) ?_; conv => whnf)
    | (refine And.intro rfl ?_; conv => whnf)
    | (refine ⟨_, IntWalk.i64_in _ (by omega), ?_⟩; conv => whnf)
    | (refine And.intro (okcs_all rfl) ?_; conv => whnf)
    | (refine And.intro (okvs_all rfl) ?_; conv => whnf)
    | (refine And.intro (frees_all rfl) ?_; conv => whnf)
    | (refine And.intro (bsl_all rfl) ?_; conv => whnf)
    | (refine And.intro (lens_all rfl) ?_; conv => whnf)
    | (refine And.intro (Nat.le_of_ble_eq_true rfl) ?_; conv => whnf)
    | (rw [ints_at (by omega)]; conv => whnf)
    | (rw [ints_at0 (by omega)]; conv => whnf)
    | (rw [ints_at' (by omega) (by omega)]; conv => whnf)
    | (refine And.intro (show (_ + 1) * _ ≤ _ by omega) ?_; conv => whnf)
    | (refine And.intro (show _ + 1 ≤ _ by omega) ?_; conv => whnf)
    | (refine And.intro (by first | omega | (simp only [length_ints]; omega)) ?_; conv => whnf)
    | (rw [ints_atI (by omega) (by omega)]; conv => whnf)
    | (refine ⟨GBelow_mk (by omega) (by omega) (by omega) (fun x i' h' hx0 hx1 hi' => ?_)⟩; conv => whnf)
    | fail)
  refine ⟨.inl rfl, ?_⟩
  conv => whnf
  refine ⟨[some 0, some 1], .int .i64 _, [some (curO code i' h'), some (.arr 1 (ints l))], ⟨rfl, And.intro (And.intro (.inl rfl) (And.intro (.inl rfl) (And.intro (.inl rfl) trivial))) (And.intro (And.intro rfl rfl) trivial)⟩, .inl rfl, rfl, hq _ i' h' (by omega) hi'⟩

/-- letters drawn: so many at most -/
def GLetters : GFun := fun xs objs Q => ∃ (code : List UInt8) (i : Nat) (h m n : Int), xs = [.ptr 0 0 0, .int .i64 m, .int .i64 n] ∧ objs = [curO code i h] ∧ i ≤ code.length ∧ code.length ≤ 1048576 ∧ 0 ≤ m ∧ m ≤ 1000 ∧ n ≤ 1073741824 ∧
  ∀ (l : List Int) (i' : Nat) (h' : Int), l.length ≤ m → i' ≤ code.length → Q (.ref 1 0 l.length) [some (curO code i' h'), some (.arr 1 (ints l))]
theorem GLetters_mk {code : List UInt8} {i : Nat} {h m n : Int} {Q : AV → List (Option AObj) → Prop} (h1 : i ≤ code.length) (h2 : code.length ≤ 1048576) (h3 : 0 ≤ m ∧ m ≤ 1000) (h4 : n ≤ 1073741824)
    (hq : ∀ (l : List Int) (i' : Nat) (h' : Int), l.length ≤ m → i' ≤ code.length → Q (.ref 1 0 l.length) [some (curO code i' h'), some (.arr 1 (ints l))]) : GLetters [.ptr 0 0 0, .int .i64 m, .int .i64 n] [curO code i h] Q :=
  ⟨code, i, h, m, n, rfl, rfl, h1, h2, h3.1, h3.2, h4, hq⟩

theorem s_spec_l3DrawLetters : GenSound Try.prog 137 1 GLetters := by
  have hR : Rely Try.prog (ctxOf [(87, .gen 1 GBelow)]) := rely_cons b_spec_l1Below.has s_spec_l1Below (rely_nil mixed)
  refine gen_of_aw b_spec_l3DrawLetters ?_
  rintro xs objs Q - ⟨code, i, h, m, n, rfl, rfl, h1, h2, h3, h3', h4, hq⟩ -
  refine ⟨by simp, vc2_sound hR _ _ _ _ _ ?_⟩
  conv => whnf
  repeat' (first
    | (refine And.intro (fun hb => ?_) (fun hb => ?_)
       all_goals (try simp only [decide_eq_true_eq, decide_eq_false_iff_not, Bool.not_eq_true', Bool.not_eq_false', Bool.not_not, ne_eq, length_ints, List.length_map, beq_iff_eq, bne_iff_ne, beq_eq_false_iff_ne, bne_eq_false_iff_eq, Int.not_le, Int.not_lt, ge_iff_le, gt_iff_lt, reduceCtorEq, not_false_eq_true, not_true_eq_false, Bool.false_eq_true, Bool.true_eq_false] at hb)
       all_goals (try (exfalso; omega))
       all_goals conv => whnf)
    | (refine And.intro (live_all rfl) ?_; conv => whnf)
    | (refine And.intro rfl ?_; conv => whnf)
    | (refine ⟨_, IntWalk.i64_in _ (by omega), ?_⟩; conv => whnf)
    | (refine And.intro (okcs_all rfl) ?_; conv => whnf)
    | (refine And.intro (okvs_all rfl) ?_; conv => whnf)
    | (refine And.intro (frees_all rfl) ?_; conv => whnf)
    | (refine And.intro (bsl_all rfl) ?_; conv => whnf)
    | (refine And.intro (lens_all rfl) ?_; conv => whnf)
    | (refine And.intro (Nat.le_of_ble_eq_true rfl) ?_; conv => whnf)
    | (rw [ints_at (by omega)]; conv => whnf)
    | (rw [ints_at0 (by omega)]; conv => whnf)
    | (rw [ints_at' (by omega) (by omega)]; conv => whnf)
    | (refine And.intro (show (_ + 1) * _ ≤ _ by omega) ?_; conv => whnf)
    | (refine And.intro (show _ + 1 ≤ _ by omega) ?_; conv => whnf)
    | (refine And.intro (by first | omega | (simp only [length_ints]; omega)) ?_; conv => whnf)
    | (refine ⟨GBelow_mk (by omega) (by omega) (by omega) (fun x i' h' hx0 hx1 hi' => ?_)⟩; conv => whnf)
    | fail)
  refine Lp.intro (α := List Int × Nat × Int) (fun a => (a.1.length : Int) ≤ x ∧ a.2.1 ≤ code.length) (fun a => x.toNat - a.1.length) (fun a => [(0, .ptr 0 0 0), (2, .int .i64 n), (7, .ref 1 0 a.1.length), (8, .int .i64 x), (9, .int .i64 a.1.length)])
    (fun a => [some (curO code a.2.1 a.2.2), some (.arr 1 (ints a.1))]) ?_ ?_
  · refine ⟨([], i', h'), ⟨hx0, hi'⟩, [some 0, none], rfl, rfl, ?_, ?_⟩
    · exact And.intro (And.intro (.inl rfl) (And.intro (.inl rfl) (And.intro (.inl rfl) trivial))) (And.intro rfl trivial)
    · repeat' (first
        | exact trivial
        | refine ⟨?_, ?_⟩
        | fail)
      all_goals first
        | with_reducible rfl
        | (conv => whnf
           try left
           conv => lhs; whnf
           first
             | rfl
             | exact congrArg (AV.int .i64) (by omega)
             | skip)
  · rintro ⟨l, i2, h2'⟩ ⟨hl, hi2⟩
    dsimp only at hl hi2 ⊢
    have hil := length_ints l
    refine vc2_sound hR _ _ _ _ _ ?_
    conv => whnf
    repeat' (first
      | (refine And.intro (fun hb => ?_) (fun hb => ?_)
         all_goals (try simp only [decide_eq_true_eq, decide_eq_false_iff_not, Bool.not_eq_true', Bool.not_eq_false', Bool.not_not, ne_eq, length_ints, List.length_map, beq_iff_eq, bne_iff_ne, beq_eq_false_iff_ne, bne_eq_false_iff_eq, Int.not_le, Int.not_lt, ge_iff_le, gt_iff_lt, reduceCtorEq, not_false_eq_true, not_true_eq_false, Bool.false_eq_true, Bool.true_eq_false] at hb)
         all_goals (try (exfalso; omega))
         all_goals conv => whnf)
      | (refine And.intro (live_all rfl) ?_; conv => whnf)
      | (refine And.intro rfl ?_; conv => whnf)
      | (refine ⟨_, IntWalk.i64_in _ (by omega), ?_⟩; conv => whnf)
      | (refine And.intro (okcs_all rfl) ?_; conv => whnf)
      | (refine And.intro (okvs_all rfl) ?_; conv => whnf)
      | (refine And.intro (frees_all rfl) ?_; conv => whnf)
      | (refine And.intro (bsl_all rfl) ?_; conv => whnf)
      | (refine And.intro (lens_all rfl) ?_; conv => whnf)
      | (refine And.intro (Nat.le_of_ble_eq_true rfl) ?_; conv => whnf)
      | (rw [ints_at (by omega)]; conv => whnf)
      | (rw [ints_at0 (by omega)]; conv => whnf)
      | (rw [ints_at' (by omega) (by omega)]; conv => whnf)
      | (refine And.intro (show (_ + 1) * _ ≤ _ by omega) ?_; conv => whnf)
      | (refine And.intro (show _ + 1 ≤ _ by omega) ?_; conv => whnf)
      | (refine And.intro (by first | omega | (simp only [length_ints]; omega)) ?_; conv => whnf)
      | (refine ⟨GBelow_mk (by omega) (by omega) (by omega) (fun y i' h' hx0 hx1 hi' => ?_)⟩; conv => whnf)
      | fail)
    · refine ⟨(l ++ [y], i', h'), ⟨by simp; omega, hi'⟩, by simp; omega, [some 0, some 2], rfl, rfl, ?_, ?_⟩
      · exact And.intro (And.intro (.inl rfl) (And.intro (.inl rfl) (And.intro (.inl rfl) trivial))) (And.intro (And.intro rfl (app_step l y l.length rfl)) trivial)
      · repeat' (first
          | exact trivial
          | refine ⟨?_, ?_⟩
          | fail)
        all_goals first
          | with_reducible rfl
          | (conv => whnf
             try left
             conv => lhs; whnf
             first
               | rfl
               | exact congrArg (AV.int .i64) (by omega)
               | skip)
        all_goals simp
    · refine ⟨.inl rfl, ?_⟩
      conv => whnf
      refine ⟨[some 0, some 1], .ref 1 0 l.length, [some (curO code i2 h2'), some (.arr 1 (ints l))], ⟨rfl, And.intro (And.intro (.inl rfl) (And.intro (.inl rfl) (And.intro (.inl rfl) trivial))) (And.intro (And.intro rfl rfl) trivial)⟩, rfl, rfl, hq l i2 h2' (by omega) hi2⟩

end Go.Proofs.Ytpfbkblgefddlaa.Ct

namespace Go.Proofs.Ytpfbkblgefddlaa.Ct
set_option linter.unusedSimpArgs false
set_option linter.unusedVariables false
open Go Go.Proofs Go.Proofs.Ytpfbkblgefddlaa.Av

def c_spec_l1Min : ICode := (.seq (.reg [⟨(some 4), .mv, [(.c (.int .i64 0))], none⟩]) (.seq (.seq (.reg [⟨(some 5), .mv, [(.t 0)], none⟩, ⟨(some 6), .mv, [(.t 1)], none⟩, ⟨(some 7), (.bin .lss), [(.t 5), (.t 6)], none⟩]) (.cond (.t 7) (.seq (.reg [⟨(some 8), .mv, [(.t 0)], none⟩, ⟨(some 4), .mv, [(.t 8)], none⟩]) .ret) .skip)) (.seq (.reg [⟨(some 9), .mv, [(.t 1)], none⟩, ⟨(some 4), .mv, [(.t 9)], none⟩]) .ret)))
theorem b_spec_l1Min : Body Try.prog 140 10 c_spec_l1Min [(.t 4)] := by
  have h1 : comp Try.prog 10 (Try.f140.body.getD .skip) = some c_spec_l1Min := by kernel_rfl
  have h2 : Try.f140.body = some (Try.f140.body.getD .skip) := by kernel_rfl
  have h3 : Try.f140.results.toList.map (cRes Try.prog) = [(some (.t 4))] := by kernel_rfl
  exact ⟨_, _, Try.func140, h2, Try.ntmps140, h1, h3, by decide⟩

def c_spec_l2Dent : ICode := (.seq (.reg [⟨(some 6), .mv, [(.c (.str []))], none⟩]) (.seq (.reg [⟨(some 8), .mv, [(.t 0)], none⟩, ⟨(some 9), .mv, [(.t 1)], none⟩, ⟨(some 10), .lens, [(.t 9)], none⟩, ⟨(some 11), (.bin .add), [(.t 10), (.c (.int .i64 1))], none⟩, ⟨(some 12), (.call 87), [(.t 8), (.t 11)], none⟩, ⟨(some 7), .mv, [(.t 12)], none⟩]) (.seq (.seq (.reg [⟨(some 13), .mv, [(.t 0)], none⟩, ⟨(some 14), (.call 87), [(.t 13), (.c (.int .i64 3))], none⟩]) (.block 0 (.seq (.reg [⟨(some 16), (.bin .eql), [(.t 14), (.c (.int .i64 0))], none⟩, ⟨(some 15), .mv, [(.t 16)], none⟩]) (.cond (.t 15) (.seq (.reg [⟨(some 17), .mv, [(.t 1)], none⟩, ⟨(some 18), .mv, [(.t 7)], none⟩, ⟨(some 19), (.sls false true), [(.t 17), (.t 18)], none⟩, ⟨(some 6), .mv, [(.t 19)], none⟩]) .ret) (.seq (.reg [⟨(some 21), (.bin .eql), [(.t 14), (.c (.int .i64 1))], none⟩, ⟨(some 20), .mv, [(.t 21)], none⟩]) (.cond (.t 20) (.seq (.drw [⟨(some 22), .mv, [(.t 1)], none⟩, ⟨(some 23), .mv, [(.t 7)], none⟩, ⟨(some 24), (.sls false true), [(.t 22), (.t 23)], none⟩, ⟨(some 25), .mv, [(.t 0)], none⟩, ⟨(some 26), .mv, [(.t 2)], none⟩, ⟨(some 27), (.call 106), [(.t 25), (.t 26)], none⟩, ⟨(some 28), (.bin .add), [(.t 24), (.t 27)], none⟩, ⟨(some 29), .mv, [(.t 1)], none⟩, ⟨(some 30), .mv, [(.t 7)], none⟩, ⟨(some 31), (.bin .add), [(.t 30), (.c (.int .i64 1))], none⟩, ⟨(some 32), .mv, [(.t 1)], none⟩, ⟨(some 33), .lens, [(.t 32)], none⟩, ⟨(some 34), (.call 140), [(.t 31), (.t 33)], none⟩, ⟨(some 35), (.sls true false), [(.t 29), (.t 34)], none⟩, ⟨(some 36), (.bin .add), [(.t 28), (.t 35)], none⟩, ⟨(some 6), .mv, [(.t 36)], none⟩] [[], [], [0, 1], [], [], [3, 4], [0, 1, 2, 3, 4, 5], [], [], [8], [], [10], [3, 4, 5, 8, 9, 10, 11], [3, 4, 5, 7, 8, 9, 10, 11, 12], [0, 1, 2, 3, 4, 5, 6, 7, 8, 9, 10, 11, 12, 13], [0, 1, 2, 3, 4, 5, 6, 7, 8, 9, 10, 11, 12, 13, 14]] true true) .ret) .skip)))))) (.seq (.drw [⟨(some 37), .mv, [(.t 1)], none⟩, ⟨(some 38), .mv, [(.t 7)], none⟩, ⟨(some 39), (.sls false true), [(.t 37), (.t 38)], none⟩, ⟨(some 40), .mv, [(.t 0)], none⟩, ⟨(some 41), .mv, [(.t 2)], none⟩, ⟨(some 42), (.call 106), [(.t 40), (.t 41)], none⟩, ⟨(some 43), (.bin .add), [(.t 39), (.t 42)], none⟩, ⟨(some 44), .mv, [(.t 1)], none⟩, ⟨(some 45), .mv, [(.t 7)], none⟩, ⟨(some 46), (.sls true false), [(.t 44), (.t 45)], none⟩, ⟨(some 47), (.bin .add), [(.t 43), (.t 46)], none⟩, ⟨(some 6), .mv, [(.t 47)], none⟩] [[], [], [0, 1], [], [], [3, 4], [0, 1, 2, 3, 4, 5], [], [], [7, 8], [0, 1, 2, 3, 4, 5, 6, 7, 8, 9], [0, 1, 2, 3, 4, 5, 6, 7, 8, 9, 10]] true true) .ret))))
theorem b_spec_l2Dent : Body Try.prog 86 48 c_spec_l2Dent [(.t 6)] := by
  have h1 : comp Try.prog 48 (Try.f86.body.getD .skip) = some c_spec_l2Dent := by kernel_rfl
  have h2 : Try.f86.body = some (Try.f86.body.getD .skip) := by kernel_rfl
  have h3 : Try.f86.results.toList.map (cRes Try.prog) = [(some (.t 6))] := by kernel_rfl
  exact ⟨_, _, Try.func86, h2, Try.ntmps86, h1, h3, by decide⟩


def GPick : GFun := fun xs objs Q => ∃ (code : List UInt8) (i : Nat) (h : Int) (l : List (List UInt8)), xs = [.ptr 0 0 0, .ref 1 0 l.length] ∧ objs = [curO code i h, .arr 1 (l.map strRow)] ∧ i ≤ code.length ∧ code.length ≤ 1048576 ∧ 0 < l.length ∧ l.length ≤ 1000 ∧ (∀ p ∈ l, p.length ≤ 100) ∧
  ∀ (t : List UInt8) (i' : Nat) (h' : Int), t.length ≤ 100 → i' ≤ code.length → Q (.str t) [some (curO code i' h'), some (.arr 1 (l.map strRow))]
theorem GPick_mk {code : List UInt8} {i : Nat} {h : Int} {l : List (List UInt8)} {Q : AV → List (Option AObj) → Prop} (h1 : i ≤ code.length) (h2 : code.length ≤ 1048576) (h3 : 0 < l.length) (h4 : l.length ≤ 1000) (h5 : ∀ p ∈ l, p.length ≤ 100)
    (hq : ∀ (t : List UInt8) (i' : Nat) (h' : Int), t.length ≤ 100 → i' ≤ code.length → Q (.str t) [some (curO code i' h'), some (.arr 1 (l.map strRow))]) : GPick [.ptr 0 0 0, .ref 1 0 l.length] [curO code i h, .arr 1 (l.map strRow)] Q :=
  ⟨code, i, h, l, rfl, rfl, h1, h2, h3, h4, h5, hq⟩
theorem GPick_nv (xs : List AV) (objs : List AObj) (Q : AV → List (Option AObj) → Prop) (h : GPick xs objs Q) : ∃ r out, Q r out := by
  obtain ⟨code, i, h, l, _, _, _, _, _, _, _, hq⟩ := h
  exact ⟨_, _, hq [] 0 0 (by simp) (Nat.zero_le _)⟩

theorem strs_atI {l : List (List UInt8)} {x : Int} (h0 : 0 ≤ x) (h1 : x < l.length) : (l.map strRow)[0 + x.toNat]? = some [.str (l.getD x.toNat [])] := by
  rw [Nat.zero_add]
  have hx : x.toNat < l.length := by omega
  simp [strRow, List.getElem?_eq_getElem hx, List.getD_eq_getElem?_getD]

theorem s_spec_l1Pick : GenSound Try.prog 106 2 GPick := by
  have hR : Rely Try.prog (ctxOf [(87, .gen 1 GBelow)]) := rely_cons b_spec_l1Below.has s_spec_l1Below (rely_nil mixed)
  refine gen_of_aw b_spec_l1Pick ?_
  rintro xs objs Q - ⟨code, i, h, l, rfl, rfl, h1, h2, h3, h4, h5, hq⟩ -
  have hil : (l.map strRow).length = l.length := by simp
  refine ⟨by simp, vc2_sound hR _ _ _ _ _ ?_⟩
  conv => whnf
  repeat' (first
    | (refine And.intro (fun hb => ?_) (fun hb => ?_)
       all_goals (try simp only [decide_eq_true_eq, decide_eq_false_iff_not, Bool.not_eq_true', Bool.not_eq_false', Bool.not_not, ne_eq, length_ints, List.length_map, beq_iff_eq, bne_iff_ne, beq_eq_false_iff_ne, bne_eq_false_iff_eq, Int.not_le, Int.not_lt, ge_iff_le, gt_iff_lt, reduceCtorEq, not_false_eq_true, not_true_eq_false, Bool.false_eq_true, Bool.true_eq_false] at hb)
       all_goals (try (exfalso; omega))
       all_goals conv => whnf)
    | (refine And.intro (live_all rfl) ?_; conv => whnf)
    | (refine And.intro rfl ?_; conv => whnf)
    | (refine ⟨_, IntWalk.i64_in _ (by omega), ?_⟩; conv => whnf)
    | (refine And.intro (okcs_all rfl) ?_; conv => whnf)
    | (refine And.intro (okvs_all rfl) ?_; conv => whnf)
    | (refine And.intro (frees_all rfl) ?_; conv => whnf)
    | (refine And.intro (bsl_all rfl) ?_; conv => whnf)
    | (refine And.intro (lens_all rfl) ?_; conv => whnf)
    | (refine And.intro (Nat.le_of_ble_eq_true rfl) ?_; conv => whnf)
    | (rw [ints_at (by omega)]; conv => whnf)
    | (rw [ints_at0 (by omega)]; conv => whnf)
    | (rw [ints_at' (by omega) (by omega)]; conv => whnf)
    | (refine And.intro (show (_ + 1) * _ ≤ _ by omega) ?_; conv => whnf)
    | (refine And.intro (show _ + 1 ≤ _ by omega) ?_; conv => whnf)
    | (refine And.intro (by first | omega | (simp only [length_ints]; omega)) ?_; conv => whnf)
    | (rw [strs_atI (by omega) (by omega)]; conv => whnf)
    | (refine ⟨GBelow_mk (by omega) (by omega) (by omega) (fun x i' h' hx0 hx1 hi' => ?_)⟩; conv => whnf)
    | fail)
  have hx : x.toNat < l.length := by omega
  have hle : (l.getD x.toNat []).length ≤ 100 := h5 _ (by rw [List.getD_eq_getElem?_getD, List.getElem?_eq_getElem hx]; exact List.getElem_mem hx)
  refine ⟨.inl rfl, ?_⟩
  conv => whnf
  refine ⟨[some 0, some 1], .str _, [some (curO code i' h'), some (.arr 1 (l.map strRow))], ⟨rfl, And.intro (And.intro (.inl rfl) (And.intro (.inl rfl) (And.intro (.inl rfl) trivial))) (And.intro (And.intro rfl rfl) trivial)⟩, .inl rfl, rfl, hq _ i' h' hle hi'⟩

def RMin (xs : List AV) (r : AV) (objs : List AObj) : Prop := ∃ a b, xs = [.int .i64 a, .int .i64 b] ∧ r = .int .i64 (if a < b then a else b) ∧ objs = []
theorem RMin_mk {a b : Int} : RMin [.int .i64 a, .int .i64 b] (.int .i64 (if a < b then a else b)) [] := ⟨a, b, rfl, rfl, rfl⟩

theorem s_spec_l1Min : PureSound Try.prog 140 RMin := by
  have hR : Rely Try.prog (ctxOf []) := rely_nil mixed
  refine pure_of_aw b_spec_l1Min ?_
  rintro xs r objs ⟨a, b, rfl, rfl, rfl⟩ -
  refine ⟨by simp, vc2_sound hR _ _ _ _ _ ?_⟩
  conv => whnf
  repeat' (first
    | (refine And.intro (fun hb => ?_) (fun hb => ?_)
       all_goals (try simp only [decide_eq_true_eq, decide_eq_false_iff_not, Bool.not_eq_true', Bool.not_eq_false', Bool.not_not, ne_eq, length_ints, List.length_map, beq_iff_eq, bne_iff_ne, beq_eq_false_iff_ne, bne_eq_false_iff_eq, Int.not_le, Int.not_lt, ge_iff_le, gt_iff_lt, reduceCtorEq, not_false_eq_true, not_true_eq_false, Bool.false_eq_true, Bool.true_eq_false] at hb)
       all_goals (try (exfalso; omega))
       all_goals conv => whnf)
    | (refine And.intro (live_all rfl) ?_; conv => whnf)
    | (refine And.intro rfl ?_; conv => whnf)
    | (refine ⟨_, IntWalk.i64_in _ (by omega), ?_⟩; conv => whnf)
    | (refine And.intro (okcs_all rfl) ?_; conv => whnf)
    | (refine And.intro (okvs_all rfl) ?_; conv => whnf)
    | (refine And.intro (frees_all rfl) ?_; conv => whnf)
    | (refine And.intro (bsl_all rfl) ?_; conv => whnf)
    | (refine And.intro (lens_all rfl) ?_; conv => whnf)
    | (refine And.intro (Nat.le_of_ble_eq_true rfl) ?_; conv => whnf)
    | (rw [ints_at (by omega)]; conv => whnf)
    | (rw [ints_at0 (by omega)]; conv => whnf)
    | (rw [ints_at' (by omega) (by omega)]; conv => whnf)
    | (refine And.intro (show (_ + 1) * _ ≤ _ by omega) ?_; conv => whnf)
    | (refine And.intro (show _ + 1 ≤ _ by omega) ?_; conv => whnf)
    | (refine And.intro (by first | omega | (simp only [length_ints]; omega)) ?_; conv => whnf)
    | fail)
  · refine ⟨.inl rfl, ?_⟩
    conv => whnf
    refine ⟨[], ⟨rfl, trivial⟩, ?_, rfl, rfl⟩
    conv => whnf
    left
    conv => lhs; whnf
    exact congrArg (AV.int .i64) (by rw [if_pos (by omega)])
  · refine ⟨.inl rfl, ?_⟩
    conv => whnf
    refine ⟨[], ⟨rfl, trivial⟩, ?_, rfl, rfl⟩
    conv => whnf
    left
    conv => lhs; whnf
    exact congrArg (AV.int .i64) (by rw [if_neg (by omega)])

def GDent : GFun := fun xs objs Q => ∃ (code : List UInt8) (i : Nat) (h : Int) (s : List UInt8) (l : List (List UInt8)), xs = [.ptr 0 0 0, .str s, .ref 1 0 l.length] ∧ objs = [curO code i h, .arr 1 (l.map strRow)] ∧ i ≤ code.length ∧ code.length ≤ 1048576 ∧ s.length ≤ 1000 ∧ 0 < l.length ∧ l.length ≤ 1000 ∧ (∀ p ∈ l, p.length ≤ 100) ∧
  ∀ (t : List UInt8) (i' : Nat) (h' : Int), t.length ≤ 2100 → i' ≤ code.length → Q (.str t) [some (curO code i' h'), some (.arr 1 (l.map strRow))]
theorem GDent_mk {code : List UInt8} {i : Nat} {h : Int} {s : List UInt8} {l : List (List UInt8)} {Q : AV → List (Option AObj) → Prop} (h1 : i ≤ code.length) (h2 : code.length ≤ 1048576) (hs : s.length ≤ 1000) (h3 : 0 < l.length) (h4 : l.length ≤ 1000) (h5 : ∀ p ∈ l, p.length ≤ 100)
    (hq : ∀ (t : List UInt8) (i' : Nat) (h' : Int), t.length ≤ 2100 → i' ≤ code.length → Q (.str t) [some (curO code i' h'), some (.arr 1 (l.map strRow))]) : GDent [.ptr 0 0 0, .str s, .ref 1 0 l.length] [curO code i h, .arr 1 (l.map strRow)] Q :=
  ⟨code, i, h, s, l, rfl, rfl, h1, h2, hs, h3, h4, h5, hq⟩

theorem sub_le {α : Type} (s : List α) (a b : Nat) : (sub s a b).length ≤ s.length := by
  unfold sub
  rw [List.length_take, List.length_drop]
  omega

theorem cat_le {s t : List UInt8} (hs : s.length ≤ 1000) (ht : t.length ≤ 100) (a b : Nat) : (sub s a b ++ t).length ≤ 1100 := by
  have := sub_le s a b
  rw [List.length_append]
  omega

theorem cat2_le {s t : List UInt8} (hs : s.length ≤ 1000) (ht : t.length ≤ 100) (a b c d : Nat) : (sub s a b ++ t ++ sub s c d).length ≤ 2100 := by
  have := cat_le hs ht a b
  have := sub_le s c d
  rw [List.length_append]
  omega

set_option maxHeartbeats 4000000 in
theorem s_spec_l2Dent : GenSound Try.prog 86 2 GDent := by
  have hR : Rely Try.prog (ctxOf [(87, .gen 1 GBelow), (106, .gen 2 GPick), (140, .pure RMin)]) := rely_cons b_spec_l1Below.has s_spec_l1Below (rely_cons b_spec_l1Pick.has s_spec_l1Pick (rely_cons b_spec_l1Min.has s_spec_l1Min (rely_nil mixed)))
  have hV : CtxNV (ctxOf [(87, .gen 1 GBelow), (106, .gen 2 GPick), (140, .pure RMin)]) := nv_gen GBelow_nv (nv_gen GPick_nv (nv_pure nvNil))
  refine gen_of_aw b_spec_l2Dent ?_
  rintro xs objs Q - ⟨code, i, h, s, l, rfl, rfl, h1, h2, hs, h3, h4, h5, hq⟩ -
  refine ⟨by simp, vc3_sound hR hV _ _ _ _ _ ?_⟩
  have hsl := sub_le s
  conv => whnf
  repeat' (first
    | (refine And.intro (fun hb => ?_) (fun hb => ?_)
       all_goals (try simp only [decide_eq_true_eq, decide_eq_false_iff_not, Bool.not_eq_true', Bool.not_eq_false', Bool.not_not, ne_eq, length_ints, List.length_map, beq_iff_eq, bne_iff_ne, beq_eq_false_iff_ne, bne_eq_false_iff_eq, Int.not_le, Int.not_lt, ge_iff_le, gt_iff_lt, reduceCtorEq, not_false_eq_true, not_true_eq_false, Bool.false_eq_true, Bool.true_eq_false] at hb)
       all_goals (try (exfalso; omega))
       all_goals conv => whnf)
    | (refine And.intro (live_all rfl) ?_; conv => whnf)
    | (refine And.intro rfl ?_; conv => whnf)
    | (refine ⟨_, IntWalk.i64_in _ (by omega), ?_⟩; conv => whnf)
    | (refine And.intro (okcs_all rfl) ?_; conv => whnf)
    | (refine And.intro (okvs_all rfl) ?_; conv => whnf)
    | (refine And.intro (frees_all rfl) ?_; conv => whnf)
    | (refine And.intro (bsl_all rfl) ?_; conv => whnf)
    | (refine And.intro (lens_all rfl) ?_; conv => whnf)
    | (refine And.intro (Nat.le_of_ble_eq_true rfl) ?_; conv => whnf)
    | (rw [ints_at (by omega)]; conv => whnf)
    | (rw [ints_at0 (by omega)]; conv => whnf)
    | (rw [ints_at' (by omega) (by omega)]; conv => whnf)
    | (refine And.intro (show (_ + 1) * _ ≤ _ by omega) ?_; conv => whnf)
    | (refine And.intro (show _ + 1 ≤ _ by omega) ?_; conv => whnf)
    | (refine And.intro (by first | omega | (simp only [length_ints]; omega)) ?_; conv => whnf)
    | (refine ⟨GBelow_mk (by omega) (by omega) (by omega) (fun x i' h' hx0 hx1 hi' => ?_)⟩; conv => whnf)
    | (refine ⟨GPick_mk (by omega) (by omega) h3 h4 h5 (fun t i' h' ht hi' => ?_)⟩; conv => whnf)
    | (refine ⟨_, _, RMin_mk, ?_⟩; conv => whnf)
    | (refine And.intro (Nat.le_trans (Nat.add_le_add (Nat.le_trans (sub_le _ _ _) hs) ht) (by omega)) ?_; conv => whnf)
    | (refine And.intro (Nat.le_trans (Nat.add_le_add (cat_le hs ht _ _) (Nat.le_trans (sub_le _ _ _) hs)) (by omega)) ?_; conv => whnf)
    | fail)
  · refine ⟨.inl rfl, ?_⟩
    conv => whnf
    refine ⟨[some 0, some 1], .str _, [some (curO code i' h'), some (.arr 1 (l.map strRow))], ⟨rfl, And.intro (And.intro (.inl rfl) (And.intro (.inl rfl) (And.intro (.inl rfl) trivial))) (And.intro (And.intro rfl rfl) trivial)⟩, .inl rfl, rfl, hq _ i' h' (Nat.le_trans (sub_le s _ _) (by omega)) hi'⟩
  all_goals
    refine ⟨.inl rfl, ?_⟩
    conv => whnf
    refine ⟨[some 0, some 1], .str _, [some (curO code i' h'), some (.arr 1 (l.map strRow))], ⟨rfl, And.intro (And.intro (.inl rfl) (And.intro (.inl rfl) (And.intro (.inl rfl) trivial))) (And.intro (And.intro rfl rfl) trivial)⟩, .inl rfl, rfl, hq _ i' h' (cat2_le hs ht _ _ _ _) hi'⟩

def GDrawRead : GFun := fun xs objs Q => ∃ (code : List UInt8), xs = [.val (code.map byteRow)] ∧ objs = [] ∧ code.length ≤ 1048576 ∧ ∀ (t : List UInt8), t.length ≤ 3000 → Q (.str t) []
theorem GDrawRead_mk {code : List UInt8} {Q : AV → List (Option AObj) → Prop} (h2 : code.length ≤ 1048576) (hq : ∀ (t : List UInt8), t.length ≤ 3000 → Q (.str t) []) : GDrawRead [.val (code.map byteRow)] [] Q := ⟨code, rfl, rfl, h2, hq⟩

abbrev readOO (code : List UInt8) (a : List UInt8 × Nat × Int) : List (Option AObj) := [some (curO code a.2.1 a.2.2)]

end Go.Proofs.Ytpfbkblgefddlaa.Ct

namespace Go.Proofs.Ytpfbkblgefddlaa.Ct
set_option linter.unusedSimpArgs false
set_option linter.unusedVariables false
open Go Go.Proofs Go.Proofs.Ytpfbkblgefddlaa.Av

def c_laws_big : ICode := (.seq (.reg [⟨(some 2), .mv, [(.c (.bool false))], none⟩]) (.seq (.reg [⟨(some 3), .mv, [(.t 0)], none⟩, ⟨(some 4), .len, [(.t 3)], none⟩, ⟨(some 5), (.bin .gtr), [(.t 4), (.c (.int .i64 1048576))], none⟩, ⟨(some 2), .mv, [(.t 5)], none⟩]) .ret))
theorem b_laws_big : Body Try.prog 27 6 c_laws_big [(.t 2)] := by
  have h1 : comp Try.prog 6 (Try.f27.body.getD .skip) = some c_laws_big := by kernel_rfl
  have h2 : Try.f27.body = some (Try.f27.body.getD .skip) := by kernel_rfl
  have h3 : Try.f27.results.toList.map (cRes Try.prog) = [(some (.t 2))] := by kernel_rfl
  exact ⟨_, _, Try.func27, h2, Try.ntmps27, h1, h3, by decide⟩


def RBig (xs : List AV) (r : AV) (objs : List AObj) : Prop := ∃ code : List UInt8, xs = [.val (code.map byteRow)] ∧ r = .bool (decide (1048576 < code.length)) ∧ objs = []
theorem RBig_mk {code : List UInt8} : RBig [.val (code.map byteRow)] (.bool (decide (1048576 < code.length))) [] := ⟨code, rfl, rfl, rfl⟩

theorem s_laws_big : PureSound Try.prog 27 RBig := by
  have hR : Rely Try.prog (ctxOf []) := rely_nil mixed
  refine pure_of_aw b_laws_big ?_
  rintro xs r objs ⟨code, rfl, rfl, rfl⟩ -
  have hbl : (code.map byteRow).length = code.length := by simp
  refine ⟨by simp, vc2_sound hR _ _ _ _ _ ?_⟩
  conv => whnf
  repeat' (first
    | (refine And.intro (fun hb => ?_) (fun hb => ?_)
       all_goals (try simp only [decide_eq_true_eq, decide_eq_false_iff_not, Bool.not_eq_true', Bool.not_eq_false', Bool.not_not, ne_eq, length_ints, List.length_map, beq_iff_eq, bne_iff_ne, beq_eq_false_iff_ne, bne_eq_false_iff_eq, Int.not_le, Int.not_lt, ge_iff_le, gt_iff_lt, reduceCtorEq, not_false_eq_true, not_true_eq_false, Bool.false_eq_true, Bool.true_eq_false] at hb)
       all_goals (try (exfalso; omega))
       all_goals conv => whnf)
    | (refine And.intro (live_all rfl) ?_; conv => whnf)
    | (refine And.intro rfl ?_; conv => whnf)
    | (refine ⟨_, IntWalk.i64_in _ (by omega), ?_⟩; conv => whnf)
    | (refine And.intro (okcs_all rfl) ?_; conv => whnf)
    | (refine And.intro (okvs_all rfl) ?_; conv => whnf)
    | (refine And.intro (frees_all rfl) ?_; conv => whnf)
    | (refine And.intro (bsl_all rfl) ?_; conv => whnf)
    | (refine And.intro (lens_all rfl) ?_; conv => whnf)
    | (refine And.intro (Nat.le_of_ble_eq_true rfl) ?_; conv => whnf)
    | (rw [ints_at (by omega)]; conv => whnf)
    | (rw [ints_at0 (by omega)]; conv => whnf)
    | (rw [ints_at' (by omega) (by omega)]; conv => whnf)
    | (refine And.intro (show (_ + 1) * _ ≤ _ by omega) ?_; conv => whnf)
    | (refine And.intro (show _ + 1 ≤ _ by omega) ?_; conv => whnf)
    | (refine And.intro (by first | omega | (simp only [length_ints]; omega)) ?_; conv => whnf)
    | fail)
  · refine ⟨.inl rfl, ?_⟩
    conv => whnf
    refine ⟨[], ⟨rfl, trivial⟩, ?_, rfl, rfl⟩
    conv => whnf
    left
    conv => lhs; whnf
    exact congrArg AV.bool (decide_eq_true (by omega)).symm
  · refine ⟨.inl rfl, ?_⟩
    conv => whnf
    refine ⟨[], ⟨rfl, trivial⟩, ?_, rfl, rfl⟩
    conv => whnf
    left
    conv => lhs; whnf
    exact congrArg AV.bool (decide_eq_false (by omega)).symm

def RTrueCode (xs : List AV) (r : AV) (objs : List AObj) : Prop := ∃ code : List UInt8, xs = [.val (code.map byteRow)] ∧ r = .bool true ∧ objs = []

end Go.Proofs.Ytpfbkblgefddlaa.Ct

