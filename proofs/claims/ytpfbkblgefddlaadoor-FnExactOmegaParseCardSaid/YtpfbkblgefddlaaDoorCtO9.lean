/- Lists of expressions: are two the same, marks, is it as it was marked. -/
import Derived.Test.YtpfbkblgefddlaaDoorCtO8
import Derived.Test.YtpfbkblgefddlaaDoorAvTurn
namespace Go.Proofs.YtpfbkblgefddlaaDoor.Ct
set_option linter.unusedSimpArgs false
set_option linter.unusedVariables false
open Go Go.Proofs Go.Proofs.YtpfbkblgefddlaaDoor.Av

def c_laws_eqNode : ICode := (.seq (.reg [⟨(some 2), (.box 3), [(.t 0)], none⟩, ⟨(some 3), (.box 3), [(.t 1)], none⟩, ⟨(some 4), .mv, [(.c (.bool false))], none⟩]) (.seq (.seq (.reg [⟨(some 5), (.fadr 0), [(.t 2)], none⟩, ⟨(some 6), .ld1, [(.t 5)], none⟩, ⟨(some 7), (.fadr 0), [(.t 3)], none⟩, ⟨(some 8), .ld1, [(.t 7)], none⟩, ⟨(some 9), (.bin .neq), [(.t 6), (.t 8)], none⟩]) (.cond (.t 9) (.seq (.reg [⟨(some 4), .mv, [(.c (.bool false))], none⟩]) .ret) .skip)) (.seq (.seq (.reg [⟨(some 10), (.fadr 1), [(.t 2)], none⟩, ⟨(some 11), .ld1, [(.t 10)], none⟩, ⟨(some 12), (.fadr 1), [(.t 3)], none⟩, ⟨(some 13), .ld1, [(.t 12)], none⟩, ⟨(some 14), (.bin .neq), [(.t 11), (.t 13)], none⟩]) (.cond (.t 14) (.seq (.reg [⟨(some 4), .mv, [(.c (.bool false))], none⟩]) .ret) .skip)) (.seq (.seq (.reg [⟨(some 15), (.fadr 2), [(.t 2)], none⟩, ⟨(some 16), .ld1, [(.t 15)], none⟩, ⟨(some 17), (.fadr 2), [(.t 3)], none⟩, ⟨(some 18), .ld1, [(.t 17)], none⟩, ⟨(some 19), (.bin .neq), [(.t 16), (.t 18)], none⟩]) (.cond (.t 19) (.seq (.reg [⟨(some 4), .mv, [(.c (.bool false))], none⟩]) .ret) .skip)) (.seq (.reg [⟨(some 4), .mv, [(.c (.bool true))], none⟩]) .ret)))))
theorem b_laws_eqNode : Body Tryd.prog 31 20 c_laws_eqNode [(.t 4)] := body_mk Tryd.func31 (by kernel_rfl) (by decide)

def c_laws_eqNodeS : ICode := (.seq (.reg [⟨(some 4), .mv, [(.c (.bool false))], none⟩]) (.seq (.seq (.reg [⟨(some 6), .mv, [(.t 0)], none⟩, ⟨(some 7), .len, [(.t 6)], none⟩, ⟨(some 8), .mv, [(.t 1)], none⟩, ⟨(some 9), .len, [(.t 8)], none⟩, ⟨(some 10), (.bin .neq), [(.t 7), (.t 9)], none⟩]) (.cond (.t 10) (.seq (.reg [⟨(some 4), .mv, [(.c (.bool false))], none⟩]) .ret) .skip)) (.seq (.seq (.reg [⟨(some 5), .mv, [(.c (.int .i64 0))], none⟩]) (.block 0 (.loop (.seq (.seq (.reg [⟨(some 11), .mv, [(.t 5)], none⟩, ⟨(some 12), .mv, [(.t 0)], none⟩, ⟨(some 13), .len, [(.t 12)], none⟩, ⟨(some 14), (.bin .lss), [(.t 11), (.t 13)], none⟩]) (.cond (.t 14) .skip (.exit 0))) (.seq (.block 1 (.seq (.drw [⟨(some 17), .mv, [(.t 0)], none⟩, ⟨(some 18), .mv, [(.t 5)], none⟩, ⟨(some 19), (.iadr 3), [(.t 17), (.t 18)], none⟩, ⟨(some 20), (.ldn 3), [(.t 19)], none⟩, ⟨(some 21), .mv, [(.t 1)], none⟩, ⟨(some 22), .mv, [(.t 5)], none⟩, ⟨(some 23), (.iadr 3), [(.t 21), (.t 22)], none⟩, ⟨(some 24), (.ldn 3), [(.t 23)], none⟩, ⟨(some 25), (.call 31), [(.t 20), (.t 24)], none⟩, ⟨(some 26), .not, [(.t 25)], none⟩] [[], [], [0, 1], [0, 1, 2], [], [], [4, 5], [4, 5, 6], [0, 1, 2, 3, 4, 5, 6, 7], [0, 1, 2, 3, 4, 5, 6, 7, 8]] true true) (.cond (.t 26) (.seq (.reg [⟨(some 4), .mv, [(.c (.bool false))], none⟩]) .ret) .skip))) (.reg [⟨(some 15), .mv, [(.t 5)], none⟩, ⟨(some 16), (.bin .add), [(.t 15), (.c (.int .i64 1))], none⟩, ⟨(some 5), .mv, [(.t 16)], none⟩])))))) (.seq (.reg [⟨(some 4), .mv, [(.c (.bool true))], none⟩]) .ret))))
theorem b_laws_eqNodeS : Body Tryd.prog 22 27 c_laws_eqNodeS [(.t 4)] := body_mk Tryd.func22 (by kernel_rfl) (by decide)

def c_laws_eqOmega : ICode := (.seq (.reg [⟨(some 2), (.box 2), [(.t 0)], none⟩, ⟨(some 3), (.box 2), [(.t 1)], none⟩, ⟨(some 4), .mv, [(.c (.bool false))], none⟩]) (.seq (.seq (.reg [⟨(some 5), (.fadr 0), [(.t 2)], none⟩, ⟨(some 6), .ld1, [(.t 5)], none⟩, ⟨(some 7), (.fadr 0), [(.t 3)], none⟩, ⟨(some 8), .ld1, [(.t 7)], none⟩, ⟨(some 9), (.call 22), [(.t 6), (.t 8)], none⟩, ⟨(some 10), .not, [(.t 9)], none⟩]) (.cond (.t 10) (.seq (.reg [⟨(some 4), .mv, [(.c (.bool false))], none⟩]) .ret) .skip)) (.seq (.seq (.reg [⟨(some 11), (.fadr 1), [(.t 2)], none⟩, ⟨(some 12), .ld1, [(.t 11)], none⟩, ⟨(some 13), (.fadr 1), [(.t 3)], none⟩, ⟨(some 14), .ld1, [(.t 13)], none⟩, ⟨(some 15), (.call 22), [(.t 12), (.t 14)], none⟩, ⟨(some 16), .not, [(.t 15)], none⟩]) (.cond (.t 16) (.seq (.reg [⟨(some 4), .mv, [(.c (.bool false))], none⟩]) .ret) .skip)) (.seq (.reg [⟨(some 4), .mv, [(.c (.bool true))], none⟩]) .ret))))
theorem b_laws_eqOmega : Body Tryd.prog 14 17 c_laws_eqOmega [(.t 4)] := body_mk Tryd.func14 (by kernel_rfl) (by decide)

def c_laws_eqOmegaS : ICode := (.seq (.reg [⟨(some 4), .mv, [(.c (.bool false))], none⟩]) (.seq (.seq (.reg [⟨(some 6), .mv, [(.t 0)], none⟩, ⟨(some 7), .len, [(.t 6)], none⟩, ⟨(some 8), .mv, [(.t 1)], none⟩, ⟨(some 9), .len, [(.t 8)], none⟩, ⟨(some 10), (.bin .neq), [(.t 7), (.t 9)], none⟩]) (.cond (.t 10) (.seq (.reg [⟨(some 4), .mv, [(.c (.bool false))], none⟩]) .ret) .skip)) (.seq (.seq (.reg [⟨(some 5), .mv, [(.c (.int .i64 0))], none⟩]) (.block 0 (.loop (.seq (.seq (.reg [⟨(some 11), .mv, [(.t 5)], none⟩, ⟨(some 12), .mv, [(.t 0)], none⟩, ⟨(some 13), .len, [(.t 12)], none⟩, ⟨(some 14), (.bin .lss), [(.t 11), (.t 13)], none⟩]) (.cond (.t 14) .skip (.exit 0))) (.seq (.block 1 (.seq (.drw [⟨(some 17), .mv, [(.t 0)], none⟩, ⟨(some 18), .mv, [(.t 5)], none⟩, ⟨(some 19), (.iadr 2), [(.t 17), (.t 18)], none⟩, ⟨(some 20), (.ldn 2), [(.t 19)], none⟩, ⟨(some 21), .mv, [(.t 1)], none⟩, ⟨(some 22), .mv, [(.t 5)], none⟩, ⟨(some 23), (.iadr 2), [(.t 21), (.t 22)], none⟩, ⟨(some 24), (.ldn 2), [(.t 23)], none⟩, ⟨(some 25), (.call 14), [(.t 20), (.t 24)], none⟩, ⟨(some 26), .not, [(.t 25)], none⟩] [[], [], [0, 1], [0, 1, 2], [], [], [4, 5], [4, 5, 6], [0, 1, 2, 3, 4, 5, 6, 7], [0, 1, 2, 3, 4, 5, 6, 7, 8]] true true) (.cond (.t 26) (.seq (.reg [⟨(some 4), .mv, [(.c (.bool false))], none⟩]) .ret) .skip))) (.reg [⟨(some 15), .mv, [(.t 5)], none⟩, ⟨(some 16), (.bin .add), [(.t 15), (.c (.int .i64 1))], none⟩, ⟨(some 5), .mv, [(.t 16)], none⟩])))))) (.seq (.reg [⟨(some 4), .mv, [(.c (.bool true))], none⟩]) .ret))))
theorem b_laws_eqOmegaS : Body Tryd.prog 6 27 c_laws_eqOmegaS [(.t 4)] := body_mk Tryd.func6 (by kernel_rfl) (by decide)

def c_laws_markNodeS : ICode := (.seq (.reg [⟨(some 4), .mv, [(.c (.int .i64 0))], none⟩]) (.seq (.seq (.reg [⟨(some 5), .mv, [(.c (.int .i64 0))], none⟩]) (.block 0 (.loop (.seq (.seq (.reg [⟨(some 6), .mv, [(.t 5)], none⟩, ⟨(some 7), .mv, [(.t 0)], none⟩, ⟨(some 8), .len, [(.t 7)], none⟩, ⟨(some 9), (.bin .lss), [(.t 6), (.t 8)], none⟩]) (.cond (.t 9) .skip (.exit 0))) (.seq (.block 1 (.seq (.reg [⟨(some 12), .mv, [(.t 0)], none⟩, ⟨(some 13), .mv, [(.t 5)], none⟩, ⟨(some 14), .mv, [(.t 1)], none⟩, ⟨(some 15), (.iadr 3), [(.t 12), (.t 13)], none⟩, ⟨(some 16), (.fadr 0), [(.t 15)], none⟩, ⟨none, (.st 1), [(.t 16), (.t 14)], none⟩]) (.seq (.reg [⟨(some 17), .mv, [(.t 1)], none⟩, ⟨(some 18), (.bin .add), [(.t 17), (.c (.int .i64 1))], none⟩, ⟨(some 1), .mv, [(.t 18)], none⟩]) (.seq (.reg [⟨(some 19), .mv, [(.t 0)], none⟩, ⟨(some 20), .mv, [(.t 5)], none⟩, ⟨(some 21), .mv, [(.t 1)], none⟩, ⟨(some 22), (.iadr 3), [(.t 19), (.t 20)], none⟩, ⟨(some 23), (.fadr 1), [(.t 22)], none⟩, ⟨none, (.st 1), [(.t 23), (.t 21)], none⟩]) (.seq (.reg [⟨(some 24), .mv, [(.t 1)], none⟩, ⟨(some 25), (.bin .add), [(.t 24), (.c (.int .i64 1))], none⟩, ⟨(some 1), .mv, [(.t 25)], none⟩]) (.seq (.reg [⟨(some 26), .mv, [(.t 0)], none⟩, ⟨(some 27), .mv, [(.t 5)], none⟩, ⟨(some 28), .mv, [(.t 1)], none⟩, ⟨(some 29), (.iadr 3), [(.t 26), (.t 27)], none⟩, ⟨(some 30), (.fadr 2), [(.t 29)], none⟩, ⟨none, (.st 1), [(.t 30), (.t 28)], none⟩]) (.reg [⟨(some 31), .mv, [(.t 1)], none⟩, ⟨(some 32), (.bin .add), [(.t 31), (.c (.int .i64 1))], none⟩, ⟨(some 1), .mv, [(.t 32)], none⟩]))))))) (.reg [⟨(some 10), .mv, [(.t 5)], none⟩, ⟨(some 11), (.bin .add), [(.t 10), (.c (.int .i64 1))], none⟩, ⟨(some 5), .mv, [(.t 11)], none⟩])))))) (.seq (.reg [⟨(some 33), .mv, [(.t 1)], none⟩, ⟨(some 4), .mv, [(.t 33)], none⟩]) .ret)))
theorem b_laws_markNodeS : Body Tryd.prog 15 34 c_laws_markNodeS [(.t 4)] := body_mk Tryd.func15 (by kernel_rfl) (by decide)

def c_laws_heldNodeS : ICode := (.seq (.reg [⟨(some 4), .mv, [(.c (.int .i64 0))], none⟩]) (.seq (.seq (.reg [⟨(some 5), .mv, [(.c (.int .i64 0))], none⟩]) (.block 0 (.loop (.seq (.seq (.reg [⟨(some 6), .mv, [(.t 5)], none⟩, ⟨(some 7), .mv, [(.t 0)], none⟩, ⟨(some 8), .len, [(.t 7)], none⟩, ⟨(some 9), (.bin .lss), [(.t 6), (.t 8)], none⟩]) (.cond (.t 9) .skip (.exit 0))) (.seq (.block 1 (.seq (.seq (.reg [⟨(some 12), .mv, [(.t 0)], none⟩, ⟨(some 13), .mv, [(.t 5)], none⟩, ⟨(some 14), (.iadr 3), [(.t 12), (.t 13)], none⟩, ⟨(some 15), (.fadr 0), [(.t 14)], none⟩, ⟨(some 16), .ld1, [(.t 15)], none⟩, ⟨(some 17), .mv, [(.t 1)], none⟩, ⟨(some 18), (.bin .neq), [(.t 16), (.t 17)], none⟩]) (.cond (.t 18) (.seq (.reg [⟨(some 4), .mv, [(.c (.int .i64 (-1)))], none⟩]) .ret) .skip)) (.seq (.reg [⟨(some 19), .mv, [(.t 1)], none⟩, ⟨(some 20), (.bin .add), [(.t 19), (.c (.int .i64 1))], none⟩, ⟨(some 1), .mv, [(.t 20)], none⟩]) (.seq (.seq (.reg [⟨(some 21), .mv, [(.t 0)], none⟩, ⟨(some 22), .mv, [(.t 5)], none⟩, ⟨(some 23), (.iadr 3), [(.t 21), (.t 22)], none⟩, ⟨(some 24), (.fadr 1), [(.t 23)], none⟩, ⟨(some 25), .ld1, [(.t 24)], none⟩, ⟨(some 26), .mv, [(.t 1)], none⟩, ⟨(some 27), (.bin .neq), [(.t 25), (.t 26)], none⟩]) (.cond (.t 27) (.seq (.reg [⟨(some 4), .mv, [(.c (.int .i64 (-1)))], none⟩]) .ret) .skip)) (.seq (.reg [⟨(some 28), .mv, [(.t 1)], none⟩, ⟨(some 29), (.bin .add), [(.t 28), (.c (.int .i64 1))], none⟩, ⟨(some 1), .mv, [(.t 29)], none⟩]) (.seq (.seq (.reg [⟨(some 30), .mv, [(.t 0)], none⟩, ⟨(some 31), .mv, [(.t 5)], none⟩, ⟨(some 32), (.iadr 3), [(.t 30), (.t 31)], none⟩, ⟨(some 33), (.fadr 2), [(.t 32)], none⟩, ⟨(some 34), .ld1, [(.t 33)], none⟩, ⟨(some 35), .mv, [(.t 1)], none⟩, ⟨(some 36), (.bin .neq), [(.t 34), (.t 35)], none⟩]) (.cond (.t 36) (.seq (.reg [⟨(some 4), .mv, [(.c (.int .i64 (-1)))], none⟩]) .ret) .skip)) (.reg [⟨(some 37), .mv, [(.t 1)], none⟩, ⟨(some 38), (.bin .add), [(.t 37), (.c (.int .i64 1))], none⟩, ⟨(some 1), .mv, [(.t 38)], none⟩]))))))) (.reg [⟨(some 10), .mv, [(.t 5)], none⟩, ⟨(some 11), (.bin .add), [(.t 10), (.c (.int .i64 1))], none⟩, ⟨(some 5), .mv, [(.t 11)], none⟩])))))) (.seq (.reg [⟨(some 39), .mv, [(.t 1)], none⟩, ⟨(some 4), .mv, [(.t 39)], none⟩]) .ret)))
theorem b_laws_heldNodeS : Body Tryd.prog 16 40 c_laws_heldNodeS [(.t 4)] := body_mk Tryd.func16 (by kernel_rfl) (by decide)

def c_laws_markOmegaS : ICode := (.seq (.reg [⟨(some 4), .mv, [(.c (.int .i64 0))], none⟩]) (.seq (.seq (.reg [⟨(some 5), .mv, [(.c (.int .i64 0))], none⟩]) (.block 0 (.loop (.seq (.seq (.reg [⟨(some 6), .mv, [(.t 5)], none⟩, ⟨(some 7), .mv, [(.t 0)], none⟩, ⟨(some 8), .len, [(.t 7)], none⟩, ⟨(some 9), (.bin .lss), [(.t 6), (.t 8)], none⟩]) (.cond (.t 9) .skip (.exit 0))) (.seq (.block 1 (.seq (.reg [⟨(some 12), .mv, [(.t 0)], none⟩, ⟨(some 13), .mv, [(.t 5)], none⟩, ⟨(some 14), (.iadr 2), [(.t 12), (.t 13)], none⟩, ⟨(some 15), (.fadr 0), [(.t 14)], none⟩, ⟨(some 16), .ld1, [(.t 15)], none⟩, ⟨(some 17), .mv, [(.t 1)], none⟩, ⟨(some 18), (.call 15), [(.t 16), (.t 17)], none⟩, ⟨(some 1), .mv, [(.t 18)], none⟩]) (.reg [⟨(some 19), .mv, [(.t 0)], none⟩, ⟨(some 20), .mv, [(.t 5)], none⟩, ⟨(some 21), (.iadr 2), [(.t 19), (.t 20)], none⟩, ⟨(some 22), (.fadr 1), [(.t 21)], none⟩, ⟨(some 23), .ld1, [(.t 22)], none⟩, ⟨(some 24), .mv, [(.t 1)], none⟩, ⟨(some 25), (.call 15), [(.t 23), (.t 24)], none⟩, ⟨(some 1), .mv, [(.t 25)], none⟩]))) (.reg [⟨(some 10), .mv, [(.t 5)], none⟩, ⟨(some 11), (.bin .add), [(.t 10), (.c (.int .i64 1))], none⟩, ⟨(some 5), .mv, [(.t 11)], none⟩])))))) (.seq (.reg [⟨(some 26), .mv, [(.t 1)], none⟩, ⟨(some 4), .mv, [(.t 26)], none⟩]) .ret)))
theorem b_laws_markOmegaS : Body Tryd.prog 7 27 c_laws_markOmegaS [(.t 4)] := body_mk Tryd.func7 (by kernel_rfl) (by decide)

def c_laws_heldOmegaS : ICode := (.seq (.reg [⟨(some 4), .mv, [(.c (.int .i64 0))], none⟩]) (.seq (.seq (.reg [⟨(some 5), .mv, [(.c (.int .i64 0))], none⟩]) (.block 0 (.loop (.seq (.seq (.reg [⟨(some 6), .mv, [(.t 5)], none⟩, ⟨(some 7), .mv, [(.t 0)], none⟩, ⟨(some 8), .len, [(.t 7)], none⟩, ⟨(some 9), (.bin .lss), [(.t 6), (.t 8)], none⟩]) (.cond (.t 9) .skip (.exit 0))) (.seq (.block 1 (.seq (.reg [⟨(some 12), .mv, [(.t 0)], none⟩, ⟨(some 13), .mv, [(.t 5)], none⟩, ⟨(some 14), (.iadr 2), [(.t 12), (.t 13)], none⟩, ⟨(some 15), (.fadr 0), [(.t 14)], none⟩, ⟨(some 16), .ld1, [(.t 15)], none⟩, ⟨(some 17), .mv, [(.t 1)], none⟩, ⟨(some 18), (.call 16), [(.t 16), (.t 17)], none⟩, ⟨(some 1), .mv, [(.t 18)], none⟩]) (.seq (.seq (.reg [⟨(some 19), .mv, [(.t 1)], none⟩, ⟨(some 20), (.bin .lss), [(.t 19), (.c (.int .i64 0))], none⟩]) (.cond (.t 20) (.seq (.reg [⟨(some 4), .mv, [(.c (.int .i64 (-1)))], none⟩]) .ret) .skip)) (.seq (.reg [⟨(some 21), .mv, [(.t 0)], none⟩, ⟨(some 22), .mv, [(.t 5)], none⟩, ⟨(some 23), (.iadr 2), [(.t 21), (.t 22)], none⟩, ⟨(some 24), (.fadr 1), [(.t 23)], none⟩, ⟨(some 25), .ld1, [(.t 24)], none⟩, ⟨(some 26), .mv, [(.t 1)], none⟩, ⟨(some 27), (.call 16), [(.t 25), (.t 26)], none⟩, ⟨(some 1), .mv, [(.t 27)], none⟩]) (.seq (.reg [⟨(some 28), .mv, [(.t 1)], none⟩, ⟨(some 29), (.bin .lss), [(.t 28), (.c (.int .i64 0))], none⟩]) (.cond (.t 29) (.seq (.reg [⟨(some 4), .mv, [(.c (.int .i64 (-1)))], none⟩]) .ret) .skip)))))) (.reg [⟨(some 10), .mv, [(.t 5)], none⟩, ⟨(some 11), (.bin .add), [(.t 10), (.c (.int .i64 1))], none⟩, ⟨(some 5), .mv, [(.t 11)], none⟩])))))) (.seq (.reg [⟨(some 30), .mv, [(.t 1)], none⟩, ⟨(some 4), .mv, [(.t 30)], none⟩]) .ret)))
theorem b_laws_heldOmegaS : Body Tryd.prog 8 31 c_laws_heldOmegaS [(.t 4)] := body_mk Tryd.func8 (by kernel_rfl) (by decide)


structure OmegaD where
  stem : List NodeD
  loop : List NodeD
  deriving Inhabited

def omRow (o : OmegaD) : List AV := [.val (nodeRows o.stem), .val (nodeRows o.loop)]
def omRows (l : List OmegaD) : List (List AV) := l.map omRow
def omOwn (o : OmegaD) : List AV := [.own 3 (nodeRows o.stem), .own 3 (nodeRows o.loop)]
def omOwns (l : List OmegaD) : List (List AV) := l.map omOwn
@[simp] theorem length_omRows (l : List OmegaD) : (omRows l).length = l.length := by simp [omRows]
@[simp] theorem length_omOwns (l : List OmegaD) : (omOwns l).length = l.length := by simp [omOwns]
theorem thaw_om (l : List OmegaD) : (omOwns l).map (List.map AV.thaw) = omRows l := by
  simp [omOwns, omRows, omOwn, omRow, AV.thaw]
theorem nodeRows_novss (l : List NodeD) : AV.novss (nodeRows l) = true := by
  induction l with
  | nil => rfl
  | cons x r ih => simpa [nodeRows, AV.novss, nodeRow, AV.novs, AV.nov] using ih
theorem omOwns_nov (l : List OmegaD) : [AObj.nst 2 (omOwns l)].all AObj.nov = true := by
  simp [AObj.nov, omOwns, omOwn, AV.novs, AV.nov, nodeRows_novss]
theorem omOwns_sealed (l : List OmegaD) : ∀ row ∈ l.map omOwn, ∀ c ∈ row, c.sealed = true := by
  intro row hr
  obtain ⟨x, _, rfl⟩ := List.mem_map.1 hr
  simp [omOwn, AV.sealed]

/-! ### the same twice -/

def REqNode (xs : List AV) (r : AV) (objs : List AObj) : Prop := ∃ n, xs = [.agg (nodeRow n), .agg (nodeRow n)] ∧ r = .bool true ∧ objs = []
theorem REqNode_mk {n : NodeD} : REqNode [.agg (nodeRow n), .agg (nodeRow n)] (.bool true) [] := ⟨n, rfl, rfl, rfl⟩
theorem s_eqNode : PureSound Tryd.prog 31 REqNode := by
  have hR : Rely Tryd.prog (ctxOf []) := rely_nil mixed
  refine pure_of_aw b_laws_eqNode ?_
  rintro xs r objs ⟨n, rfl, rfl, rfl⟩ -
  refine ⟨by simp, vc2_sound hR _ _ _ _ _ ?_⟩
  conv => whnf
  repeat' ((first
    | contradiction
    | (refine And.intro (fun hb => ?_) (fun hb => ?_) <;> first | contradiction | ((try simp only [SB, reduceCtorEq] at hb); try (exfalso; first | contradiction | omega)))
    | refine And.intro rfl ?_
    | refine ⟨_, IntWalk.i64_in _ (by omega), ?_⟩
    | rw [ints_at (by omega)]
    | rw [ints_at0 (by omega)]
    | rw [ints_at' (by omega) (by omega)]
    | refine And.intro (lens_all rfl) ?_
    | refine And.intro (show _ ≤ _ ∧ (_ + 1) * _ ≤ _ ∧ _ + 1 ≤ _ by first | omega | (simp; omega)) ?_
    | refine And.intro (show 1 * _ ≤ _ ∧ 1 ≤ _ by omega) ?_
    | refine And.intro (by first | omega | (simp; omega) | (show _ ∧ _; simp; done)) ?_
    | fail) <;> conv => whnf)
  refine ⟨.inl rfl, ?_⟩
  conv => whnf
  refine ⟨[], ⟨rfl, trivial⟩, ?_, rfl, rfl⟩
  conv => whnf
  left
  conv => lhs; whnf

theorem node_at {l : List NodeD} {i : Nat} (h : i < l.length) : (nodeRows l)[((i : Nat) : Int).toNat]? = some (nodeRow (l.getD i default)) := map_at h
theorem om_at {l : List OmegaD} {i : Nat} (h : i < l.length) : (omRows l)[((i : Nat) : Int).toNat]? = some (omRow (l.getD i default)) := map_at h

def REqNodeS (xs : List AV) (r : AV) (objs : List AObj) : Prop := ∃ l, xs = [.val (nodeRows l), .val (nodeRows l)] ∧ r = .bool true ∧ objs = []
theorem REqNodeS_mk {l : List NodeD} : REqNodeS [.val (nodeRows l), .val (nodeRows l)] (.bool true) [] := ⟨l, rfl, rfl, rfl⟩
theorem s_eqNodeS : PureSound Tryd.prog 22 REqNodeS := by
  have hR : Rely Tryd.prog (ctxOf [(31, .pure REqNode)]) := rely_cons b_laws_eqNode.has s_eqNode (rely_nil mixed)
  refine pure_of_aw b_laws_eqNodeS ?_
  rintro xs r objs ⟨l, rfl, rfl, rfl⟩ ⟨w, own, vs, hrel⟩
  have hl : (nodeRows l).length ≤ 9223372036854775807 := by
    obtain ⟨v, hv⟩ := rels_at hrel (i := 0) rfl
    exact rel_len hv
  have hle := length_nodeRows l
  clear hrel
  refine ⟨by simp, vc2_sound hR _ _ _ _ _ ?_⟩
  conv => whnf
  repeat' ((first
    | contradiction
    | (refine And.intro (fun hb => ?_) (fun hb => ?_) <;> first | contradiction | ((try simp only [SB, reduceCtorEq] at hb); try (exfalso; first | contradiction | omega)))
    | refine And.intro rfl ?_
    | refine ⟨_, IntWalk.i64_in _ (by omega), ?_⟩
    | rw [ints_at (by omega)]
    | rw [ints_at0 (by omega)]
    | rw [ints_at' (by omega) (by omega)]
    | refine And.intro (lens_all rfl) ?_
    | refine And.intro (show _ ≤ _ ∧ (_ + 1) * _ ≤ _ ∧ _ + 1 ≤ _ by first | omega | (simp; omega)) ?_
    | refine And.intro (show 1 * _ ≤ _ ∧ 1 ≤ _ by omega) ?_
    | refine And.intro (by first | omega | (simp; omega) | (show _ ∧ _; simp; done)) ?_
    | fail) <;> conv => whnf)
  refine Lp.intro (α := Nat) (fun i => i ≤ l.length) (fun i => l.length - i) (fun i => [(0, .val (nodeRows l)), (1, .val (nodeRows l)), (5, .int .i64 i)]) (fun _ => []) ?_ ?_
  · refine ⟨0, by omega, [], rfl, rfl, trivial, ?_⟩
    repeat' (first
      | exact trivial
      | refine ⟨?_, ?_⟩
      | fail)
    all_goals first
      | with_reducible rfl
      | (conv => whnf
         try left
         conv => lhs; whnf
         first
           | rfl
           | exact congrArg (AV.int .i64) (by omega)
           | skip)
  · intro i hi
    refine vc2_sound hR _ _ _ _ _ ?_
    conv => whnf
    repeat' ((first
      | contradiction
      | (refine And.intro (fun hb => ?_) (fun hb => ?_) <;> first | contradiction | ((try simp only [SB, reduceCtorEq] at hb); try (exfalso; first | contradiction | omega)))
      | refine And.intro rfl ?_
      | refine ⟨_, IntWalk.i64_in _ (by omega), ?_⟩
      | rw [ints_at (by omega)]
      | rw [ints_at0 (by omega)]
      | rw [ints_at' (by omega) (by omega)]
      | refine And.intro (lens_all rfl) ?_
      | refine And.intro (show _ ≤ _ ∧ (_ + 1) * _ ≤ _ ∧ _ + 1 ≤ _ by first | omega | (simp; omega)) ?_
      | refine And.intro (show 1 * _ ≤ _ ∧ 1 ≤ _ by omega) ?_
      | refine And.intro (by first | omega | (simp; omega) | (show _ ∧ _; simp; done)) ?_
      | rw [node_at (by omega)]
      | refine ⟨_, _, REqNode_mk (n := l.getD i default), ?_⟩
      | fail) <;> conv => whnf)
    · refine ⟨i + 1, by omega, by omega, [], rfl, rfl, trivial, ?_⟩
      repeat' (first
        | exact trivial
        | refine ⟨?_, ?_⟩
        | fail)
      all_goals first
        | with_reducible rfl
        | (conv => whnf
           try left
           conv => lhs; whnf
           first
             | rfl
             | exact congrArg (AV.int .i64) (by omega)
             | skip)
    · refine ⟨.inl rfl, ?_⟩
      conv => whnf
      refine ⟨[], ⟨rfl, trivial⟩, ?_, rfl, rfl⟩
      conv => whnf
      left
      conv => lhs; whnf

def REqOmega (xs : List AV) (r : AV) (objs : List AObj) : Prop := ∃ o, xs = [.agg (omRow o), .agg (omRow o)] ∧ r = .bool true ∧ objs = []
theorem REqOmega_mk {o : OmegaD} : REqOmega [.agg (omRow o), .agg (omRow o)] (.bool true) [] := ⟨o, rfl, rfl, rfl⟩
theorem s_eqOmega : PureSound Tryd.prog 14 REqOmega := by
  have hR : Rely Tryd.prog (ctxOf [(22, .pure REqNodeS)]) := rely_cons b_laws_eqNodeS.has s_eqNodeS (rely_nil mixed)
  refine pure_of_aw b_laws_eqOmega ?_
  rintro xs r objs ⟨o, rfl, rfl, rfl⟩ -
  refine ⟨by simp, vc2_sound hR _ _ _ _ _ ?_⟩
  conv => whnf
  repeat' ((first
    | contradiction
    | (refine And.intro (fun hb => ?_) (fun hb => ?_) <;> first | contradiction | ((try simp only [SB, reduceCtorEq] at hb); try (exfalso; first | contradiction | omega)))
    | refine And.intro rfl ?_
    | refine ⟨_, IntWalk.i64_in _ (by omega), ?_⟩
    | rw [ints_at (by omega)]
    | rw [ints_at0 (by omega)]
    | rw [ints_at' (by omega) (by omega)]
    | refine And.intro (lens_all rfl) ?_
    | refine And.intro (show _ ≤ _ ∧ (_ + 1) * _ ≤ _ ∧ _ + 1 ≤ _ by first | omega | (simp; omega)) ?_
    | refine And.intro (show 1 * _ ≤ _ ∧ 1 ≤ _ by omega) ?_
    | refine And.intro (by first | omega | (simp; omega) | (show _ ∧ _; simp; done)) ?_
    | refine ⟨_, _, REqNodeS_mk (l := o.stem), ?_⟩
    | refine ⟨_, _, REqNodeS_mk (l := o.loop), ?_⟩
    | fail) <;> conv => whnf)
  refine ⟨.inl rfl, ?_⟩
  conv => whnf
  refine ⟨[], ⟨rfl, trivial⟩, ?_, rfl, rfl⟩
  conv => whnf
  left
  conv => lhs; whnf

def REqOmegaS (xs : List AV) (r : AV) (objs : List AObj) : Prop := ∃ l, xs = [.val (omRows l), .val (omRows l)] ∧ r = .bool true ∧ objs = []
theorem REqOmegaS_eq {xs : List AV} {l : List OmegaD} (h : xs = [.val (omRows l), .val (omRows l)]) : REqOmegaS xs (.bool true) [] := ⟨l, h, rfl, rfl⟩
theorem s_eqOmegaS : PureSound Tryd.prog 6 REqOmegaS := by
  have hR : Rely Tryd.prog (ctxOf [(14, .pure REqOmega)]) := rely_cons b_laws_eqOmega.has s_eqOmega (rely_nil mixed)
  refine pure_of_aw b_laws_eqOmegaS ?_
  rintro xs r objs ⟨l, rfl, rfl, rfl⟩ ⟨w, own, vs, hrel⟩
  have hl : (omRows l).length ≤ 9223372036854775807 := by
    obtain ⟨v, hv⟩ := rels_at hrel (i := 0) rfl
    exact rel_len hv
  have hle := length_omRows l
  clear hrel
  refine ⟨by simp, vc2_sound hR _ _ _ _ _ ?_⟩
  conv => whnf
  repeat' ((first
    | contradiction
    | (refine And.intro (fun hb => ?_) (fun hb => ?_) <;> first | contradiction | ((try simp only [SB, reduceCtorEq] at hb); try (exfalso; first | contradiction | omega)))
    | refine And.intro rfl ?_
    | refine ⟨_, IntWalk.i64_in _ (by omega), ?_⟩
    | rw [ints_at (by omega)]
    | rw [ints_at0 (by omega)]
    | rw [ints_at' (by omega) (by omega)]
    | refine And.intro (lens_all rfl) ?_
    | refine And.intro (show _ ≤ _ ∧ (_ + 1) * _ ≤ _ ∧ _ + 1 ≤ _ by first | omega | (simp; omega)) ?_
    | refine And.intro (show 1 * _ ≤ _ ∧ 1 ≤ _ by omega) ?_
    | refine And.intro (by first | omega | (simp; omega) | (show _ ∧ _; simp; done)) ?_
    | fail) <;> conv => whnf)
  refine Lp.intro (α := Nat) (fun i => i ≤ l.length) (fun i => l.length - i) (fun i => [(0, .val (omRows l)), (1, .val (omRows l)), (5, .int .i64 i)]) (fun _ => []) ?_ ?_
  · refine ⟨0, by omega, [], rfl, rfl, trivial, ?_⟩
    repeat' (first
      | exact trivial
      | refine ⟨?_, ?_⟩
      | fail)
    all_goals first
      | with_reducible rfl
      | (conv => whnf
         try left
         conv => lhs; whnf
         first
           | rfl
           | exact congrArg (AV.int .i64) (by omega)
           | skip)
  · intro i hi
    refine vc2_sound hR _ _ _ _ _ ?_
    conv => whnf
    repeat' ((first
      | contradiction
      | (refine And.intro (fun hb => ?_) (fun hb => ?_) <;> first | contradiction | ((try simp only [SB, reduceCtorEq] at hb); try (exfalso; first | contradiction | omega)))
      | refine And.intro rfl ?_
      | refine ⟨_, IntWalk.i64_in _ (by omega), ?_⟩
      | rw [ints_at (by omega)]
      | rw [ints_at0 (by omega)]
      | rw [ints_at' (by omega) (by omega)]
      | refine And.intro (lens_all rfl) ?_
      | refine And.intro (show _ ≤ _ ∧ (_ + 1) * _ ≤ _ ∧ _ + 1 ≤ _ by first | omega | (simp; omega)) ?_
      | refine And.intro (show 1 * _ ≤ _ ∧ 1 ≤ _ by omega) ?_
      | refine And.intro (by first | omega | (simp; omega) | (show _ ∧ _; simp; done)) ?_
      | rw [om_at (by omega)]
      | refine ⟨_, _, REqOmega_mk (o := l.getD i default), ?_⟩
      | fail) <;> conv => whnf)
    · refine ⟨i + 1, by omega, by omega, [], rfl, rfl, trivial, ?_⟩
      repeat' (first
        | exact trivial
        | refine ⟨?_, ?_⟩
        | fail)
      all_goals first
        | with_reducible rfl
        | (conv => whnf
           try left
           conv => lhs; whnf
           first
             | rfl
             | exact congrArg (AV.int .i64) (by omega)
             | skip)
    · refine ⟨.inl rfl, ?_⟩
      conv => whnf
      refine ⟨[], ⟨rfl, trivial⟩, ?_, rfl, rfl⟩
      conv => whnf
      left
      conv => lhs; whnf

/-! ### marks -/

def markN (k : Int) (i : Nat) : NodeD := ⟨k + 3 * i, k + 3 * i + 1, k + 3 * i + 1 + 1⟩
def marksN (k : Int) (n : Nat) : List NodeD := (List.range n).map (markN k)
@[simp] theorem length_marksN (k : Int) (n : Nat) : (marksN k n).length = n := by simp [marksN]
theorem marksN_at {k : Int} {n i : Nat} (h : i < n) : (marksN k n).getD i default = markN k i := by simp [marksN, h]
theorem marksN_succ (k : Int) (n : Nat) : marksN k (n + 1) = marksN k n ++ [markN k n] := by simp [marksN, List.range_succ]

theorem over_set {α : Type} {f : α → List AV} {p l : List α} {y : α} {i : Nat} (hp : p.length = i) (hi : i < l.length) : ((p ++ l.drop i).map f).set i (f y) = ((p ++ [y]) ++ l.drop (i + 1)).map f := by
  subst hp
  rw [List.drop_eq_getElem_cons hi, List.map_append, List.set_append_right _ _ (by simp)]
  simp only [List.length_map, Nat.sub_self, List.map_cons, List.set_cons_zero, List.map_append, List.append_assoc]
  rfl
theorem over_len {α : Type} {f : α → List AV} {p l : List α} {i : Nat} (hp : p.length = i) (hi : i ≤ l.length) : ((p ++ l.drop i).map f).length = l.length := by
  simp; omega
theorem over_at {α : Type} [Inhabited α] {f : α → List AV} {p l : List α} {i : Nat} (hp : p.length = i) (hi : i < l.length) : ((p ++ l.drop i).map f)[i]? = some (f (l.getD i default)) := by
  subst hp
  rw [List.getElem?_map, List.getElem?_append_right (Nat.le_refl _), Nat.sub_self, List.getElem?_drop]
  simp [List.getElem?_eq_getElem hi, List.getD_eq_getElem?_getD]
theorem set_at0 {rows : List (List AV)} {i : Nat} {r : List AV} (h : i < rows.length) : (rows.set i r)[0 + ((i : Nat) : Int).toNat]? = some r := by
  rw [Nat.zero_add, Int.toNat_natCast]
  exact List.getElem?_set_self h

def GMarkNodeS : GFun := fun xs objs Q => ∃ (l : List NodeD) (k : Int), xs = [.ref 0 0 l.length, .int .i64 k] ∧ objs = [.arr 3 (nodeRows l)] ∧ l.length ≤ 1000000 ∧ 0 ≤ k ∧ k ≤ 1000000000 ∧ Q (.int .i64 (k + 3 * l.length)) [some (.arr 3 (nodeRows (marksN k l.length)))]
theorem GMarkNodeS_mk {l : List NodeD} {k : Int} {Q : AV → List (Option AObj) → Prop} (h1 : l.length ≤ 1000000) (h2 : 0 ≤ k) (h3 : k ≤ 1000000000) (hq : Q (.int .i64 (k + 3 * l.length)) [some (.arr 3 (nodeRows (marksN k l.length)))]) :
    GMarkNodeS [.ref 0 0 l.length, .int .i64 k] [.arr 3 (nodeRows l)] Q := ⟨l, k, rfl, rfl, h1, h2, h3, hq⟩

theorem s_markNodeS : GenSound Tryd.prog 15 1 GMarkNodeS := by
  have hR : Rely Tryd.prog (ctxOf []) := rely_nil mixed
  refine gen_of_aw b_laws_markNodeS ?_
  rintro xs objs Q - ⟨l, k, rfl, rfl, h1, h2, h3, hq⟩ -
  refine ⟨by simp, vc2_sound hR _ _ _ _ _ ?_⟩
  conv => whnf
  repeat' ((first
    | contradiction
    | (refine And.intro (fun hb => ?_) (fun hb => ?_) <;> first | contradiction | ((try simp only [SB, reduceCtorEq] at hb); try (exfalso; first | contradiction | omega)))
    | refine And.intro rfl ?_
    | refine ⟨_, IntWalk.i64_in _ (by omega), ?_⟩
    | rw [ints_at (by omega)]
    | rw [ints_at0 (by omega)]
    | rw [ints_at' (by omega) (by omega)]
    | refine And.intro (lens_all rfl) ?_
    | refine And.intro (show _ ≤ _ ∧ (_ + 1) * _ ≤ _ ∧ _ + 1 ≤ _ by first | omega | (simp; omega)) ?_
    | refine And.intro (show 1 * _ ≤ _ ∧ 1 ≤ _ by omega) ?_
    | refine And.intro (by first | omega | (simp; omega) | (show _ ∧ _; simp; done)) ?_
    | fail) <;> conv => whnf)
  refine Lp.intro (α := Nat) (fun i => i ≤ l.length) (fun i => l.length - i) (fun i => [(0, .ref 0 0 l.length), (1, .int .i64 (k + 3 * i)), (5, .int .i64 i)]) (fun i => [some (.arr 3 ((marksN k i ++ l.drop i).map nodeRow))]) ?_ ?_
  · refine ⟨0, by omega, [some 0], rfl, rfl, And.intro (And.intro rfl ?_) trivial, ?_⟩
    · simp [marksN, nodeRows]
    · repeat' (first
        | exact trivial
        | refine ⟨?_, ?_⟩
        | fail)
      all_goals first
        | with_reducible rfl
        | (conv => whnf
           try left
           conv => lhs; whnf
           first
             | rfl
             | exact congrArg (AV.int .i64) (by omega)
             | skip)
  · intro i hi
    have hlen := over_len (f := nodeRow) (length_marksN k i) hi
    refine vc2_sound hR _ _ _ _ _ ?_
    conv => whnf
    repeat' ((first
      | contradiction
      | (refine And.intro (fun hb => ?_) (fun hb => ?_) <;> first | contradiction | ((try simp only [SB, reduceCtorEq] at hb); try (exfalso; first | contradiction | omega)))
      | refine And.intro rfl ?_
      | refine ⟨_, IntWalk.i64_in _ (by omega), ?_⟩
      | rw [ints_at (by omega)]
      | rw [ints_at0 (by omega)]
      | rw [ints_at' (by omega) (by omega)]
      | refine And.intro (lens_all rfl) ?_
      | refine And.intro (show _ ≤ _ ∧ (_ + 1) * _ ≤ _ ∧ _ + 1 ≤ _ by first | omega | (simp; omega)) ?_
      | refine And.intro (show 1 * _ ≤ _ ∧ 1 ≤ _ by omega) ?_
      | refine And.intro (by first | omega | (simp; omega) | (show _ ∧ _; simp; done)) ?_
      | (rw [map_at0 (f := nodeRow) (by simp [length_marksN]; omega)])
      | (rw [List.getElem?_set_self (by (try simp only [List.length_set]); rw [hlen]; omega)])
      | fail) <;> conv => whnf)
    · refine ⟨i + 1, by omega, by omega, [some 0], rfl, rfl, And.intro (And.intro rfl ?_) trivial, ?_⟩
      · simp only [List.set_set]
        rw [marksN_succ, ← over_set (length_marksN k i) (by omega), Nat.zero_add]
        rfl
      · repeat' (first
          | exact trivial
          | refine ⟨?_, ?_⟩
          | fail)
        all_goals first
          | with_reducible rfl
          | (conv => whnf
             try left
             conv => lhs; whnf
             first
               | rfl
               | exact congrArg (AV.int .i64) (by omega)
               | skip)
    · have hil : i = l.length := by omega
      refine ⟨.inl rfl, ?_⟩
      conv => whnf
      subst hil
      refine ⟨[some 0], .int .i64 (k + 3 * l.length), [some (.arr 3 (nodeRows (marksN k l.length)))], ⟨rfl, And.intro (And.intro rfl ?_) trivial⟩, .inl rfl, rfl, hq⟩
      simp [nodeRows]

def RHeldNodeS (xs : List AV) (r : AV) (objs : List AObj) : Prop := ∃ (n : Nat) (k : Int), xs = [.val (nodeRows (marksN k n)), .int .i64 k] ∧ n ≤ 1000000 ∧ 0 ≤ k ∧ k ≤ 1000000000 ∧ r = .int .i64 (k + 3 * n) ∧ objs = []
theorem RHeldNodeS_mk {n : Nat} {k : Int} (h1 : n ≤ 1000000) (h2 : 0 ≤ k) (h3 : k ≤ 1000000000) : RHeldNodeS [.val (nodeRows (marksN k n)), .int .i64 k] (.int .i64 (k + 3 * n)) [] := ⟨n, k, rfl, h1, h2, h3, rfl, rfl⟩

theorem s_heldNodeS : PureSound Tryd.prog 16 RHeldNodeS := by
  have hR : Rely Tryd.prog (ctxOf []) := rely_nil mixed
  refine pure_of_aw b_laws_heldNodeS ?_
  rintro xs r objs ⟨n, k, rfl, h1, h2, h3, rfl, rfl⟩ -
  have hle := (length_nodeRows (marksN k n)).trans (length_marksN k n)
  refine ⟨by simp, vc2_sound hR _ _ _ _ _ ?_⟩
  conv => whnf
  repeat' ((first
    | contradiction
    | (refine And.intro (fun hb => ?_) (fun hb => ?_) <;> first | contradiction | ((try simp only [SB, reduceCtorEq] at hb); try (exfalso; first | contradiction | omega)))
    | refine And.intro rfl ?_
    | refine ⟨_, IntWalk.i64_in _ (by omega), ?_⟩
    | rw [ints_at (by omega)]
    | rw [ints_at0 (by omega)]
    | rw [ints_at' (by omega) (by omega)]
    | refine And.intro (lens_all rfl) ?_
    | refine And.intro (show _ ≤ _ ∧ (_ + 1) * _ ≤ _ ∧ _ + 1 ≤ _ by first | omega | (simp; omega)) ?_
    | refine And.intro (show 1 * _ ≤ _ ∧ 1 ≤ _ by omega) ?_
    | refine And.intro (by first | omega | (simp; omega) | (show _ ∧ _; simp; done)) ?_
    | fail) <;> conv => whnf)
  refine Lp.intro (α := Nat) (fun i => i ≤ n) (fun i => n - i) (fun i => [(0, .val (nodeRows (marksN k n))), (1, .int .i64 (k + 3 * i)), (5, .int .i64 i)]) (fun _ => []) ?_ ?_
  · refine ⟨0, by omega, [], rfl, rfl, trivial, ?_⟩
    repeat' (first
      | exact trivial
      | refine ⟨?_, ?_⟩
      | fail)
    all_goals first
      | with_reducible rfl
      | (conv => whnf
         try left
         conv => lhs; whnf
         first
           | rfl
           | exact congrArg (AV.int .i64) (by omega)
           | skip)
  · intro i hi
    refine vc2_sound hR _ _ _ _ _ ?_
    conv => whnf
    repeat' ((first
      | contradiction
      | (refine And.intro (fun hb => ?_) (fun hb => ?_) <;> first | contradiction | ((try simp only [SB, reduceCtorEq] at hb); try (exfalso; first | contradiction | omega)))
      | refine And.intro rfl ?_
      | refine ⟨_, IntWalk.i64_in _ (by omega), ?_⟩
      | rw [ints_at (by omega)]
      | rw [ints_at0 (by omega)]
      | rw [ints_at' (by omega) (by omega)]
      | refine And.intro (lens_all rfl) ?_
      | refine And.intro (show _ ≤ _ ∧ (_ + 1) * _ ≤ _ ∧ _ + 1 ≤ _ by first | omega | (simp; omega)) ?_
      | refine And.intro (show 1 * _ ≤ _ ∧ 1 ≤ _ by omega) ?_
      | refine And.intro (by first | omega | (simp; omega) | (show _ ∧ _; simp; done)) ?_
      | (rw [show (nodeRows (marksN k n))[((i : Nat) : Int).toNat]? = some (nodeRow (markN k i)) from by rw [node_at (by rw [length_marksN]; omega), marksN_at (by omega)]])
      | fail) <;> conv => whnf)
    · refine ⟨i + 1, by omega, by omega, [], rfl, rfl, trivial, ?_⟩
      repeat' (first
        | exact trivial
        | refine ⟨?_, ?_⟩
        | fail)
      all_goals first
        | with_reducible rfl
        | (conv => whnf
           try left
           conv => lhs; whnf
           first
             | rfl
             | exact congrArg (AV.int .i64) (by omega)
             | skip)
    · refine ⟨.inl rfl, ?_⟩
      conv => whnf
      refine ⟨[], ⟨rfl, trivial⟩, ?_, rfl, rfl⟩
      conv => whnf
      left
      conv => lhs; whnf
      exact congrArg (AV.int .i64) (by omega)

end Go.Proofs.YtpfbkblgefddlaaDoor.Ct
