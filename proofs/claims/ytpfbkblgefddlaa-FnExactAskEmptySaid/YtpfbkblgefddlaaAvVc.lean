/- The condition that a body's rules ask for, as a function of the compiled code. -/
import Derived.Test.YtpfbkblgefddlaaAvFun
namespace Go.Proofs.Ytpfbkblgefddlaa.Av
set_option linter.unusedSimpArgs false
set_option linter.unusedVariables false
open Go

/-- a loop, at which the evaluation stops -/
structure Lp (P : Program) (N k : Nat) (b : ICode) (K : XK) (e : Env) (h : Heap) (n : Nat) : Prop where
  aw : Aw P N k (.loop b) K e h n

def vc (P : Program) (N k : Nat) (Γ : Ctx) : ICode → XK → Env → Heap → Nat → Prop
  | .skip, K, e, h, n => K .normal e h n
  | .reg ios, K, e, h, n => regK Γ ios e h n (K .normal)
  | .drw ios _ true _, K, e, h, n => drwK Γ ios e h n (K .normal)
  | .drw _ _ false _, _, _, _, _ => False
  | .seq a b, K, e, h, n => vc P N k Γ a (thenK (vc P N k Γ b K) K) e h n
  | .cond z x y, K, e, h, n => condK (z.ev e) (vc P N k Γ x K e h n) (vc P N k Γ y K e h n)
  | .block id b, K, e, h, n => vc P N k Γ b (blockK id K) e h n
  | .loop b, K, e, h, n => Lp P N k b K e h n
  | .exit id, K, e, h, n => K (.exit id) e h n
  | .ret, K, e, h, n => K .ret e h n

/-- What a caller may lean on. -/
structure Rely (P : Program) (Γ : Ctx) : Prop where
  mixed : P.follows .mixedOrders = true
  sound : CtxSound P Γ
  body : CtxBody P Γ

theorem condK_mono {v : AV} {A B A' B' : Prop} (ha : A → A') (hb : B → B') (h : condK v A B) : condK v A' B' := by
  unfold condK at *
  split at h
  · exact ⟨fun c => ha (h.1 c), fun c => hb (h.2 c)⟩
  · exact ⟨fun c => ha (h.1 c), fun c => hb (h.2 c)⟩
  · exact h.elim

theorem vc_sound {P : Program} {N k : Nat} {Γ : Ctx} (hR : Rely P Γ) : ∀ (ic : ICode) (K : XK) (e : Env) (h : Heap) (n : Nat), vc P N k Γ ic K e h n → Aw P N k ic K e h n
  | .skip, K, e, h, n, hv => Aw.skip hv
  | .reg ios, K, e, h, n, hv => Aw.reg (Γ := Γ) (callOk_K hR.sound hR.body) hv
  | .drw ios us true b2, K, e, h, n, hv => Aw.drw (Γ := Γ) hR.mixed (callOk_D hR.sound hR.body) hv
  | .drw _ _ false _, _, _, _, _, hv => hv.elim
  | .seq a b, K, e, h, n, hv => Aw.seq (Aw.mono (fun x e' h' n' g => by
      cases x <;> simp only [thenK] at g ⊢ <;> first | exact g | exact vc_sound hR b K e' h' n' g) (vc_sound hR a _ e h n hv))
  | .cond z x y, K, e, h, n, hv => Aw.cond (condK_mono (vc_sound hR x K e h n) (vc_sound hR y K e h n) hv)
  | .block id b, K, e, h, n, hv => Aw.block (vc_sound hR b _ e h n hv)
  | .loop b, K, e, h, n, hv => hv.aw
  | .exit id, K, e, h, n, hv => Aw.exit hv
  | .ret, K, e, h, n, hv => Aw.ret hv

def okcB (h : Heap) : AV → Bool
  | .ref id _ _ => (h id).isSome
  | .ptr id _ _ => (h id).isSome
  | .int .. => true
  | .bool _ => true
  | .str _ => true
  | .snil => true
  | .val _ => true
  | .rptr .. => true
  | .pnil => true
  | .fn .. => true
  | .fnil => true
  | _ => false

def okcs (h : Heap) : List AV → Bool
  | [] => true
  | c :: r => okcB h c && okcs h r

theorem okcs_all {h : Heap} : ∀ {l : List AV}, okcs h l = true → ∀ c ∈ l, c.okc h
  | [], _, c, hc => by simp at hc
  | x :: r, ho, c, hc => by
    simp only [okcs, Bool.and_eq_true] at ho
    rcases List.mem_cons.1 hc with rfl | hc
    · have := ho.1
      cases c <;> simp_all [okcB, AV.okc]
    · exact okcs_all ho.2 c hc

def okvs (h : Heap) : List AV → Bool
  | [] => true
  | v :: r => okcs h v.cells && okvs h r

theorem okvs_all {h : Heap} : ∀ {l : List AV}, okvs h l = true → ∀ v ∈ l, ∀ c ∈ v.cells, c.okc h
  | [], _, c, hc => by simp at hc
  | x :: r, ho, v, hv => by
    simp only [okvs, Bool.and_eq_true] at ho
    rcases List.mem_cons.1 hv with rfl | hv
    · exact okcs_all ho.1
    · exact okvs_all ho.2 v hv

def frees : List AV → Bool
  | [] => true
  | c :: r => c.free && frees r

theorem frees_all : ∀ {l : List AV}, frees l = true → ∀ c ∈ l, c.free = true
  | [], _, c, hc => by simp at hc
  | x :: r, ho, c, hc => by
    simp only [frees, Bool.and_eq_true] at ho
    rcases List.mem_cons.1 hc with rfl | hc
    · exact ho.1
    · exact frees_all ho.2 c hc

def lensB (s : Nat) : List (List AV) → Bool
  | [] => true
  | v :: r => v.length == s && lensB s r

theorem lens_all {s : Nat} : ∀ {l : List (List AV)}, lensB s l = true → ∀ r ∈ l, r.length = s
  | [], _, c, hc => by simp at hc
  | x :: r, ho, c, hc => by
    simp only [lensB, Bool.and_eq_true, beq_iff_eq] at ho
    rcases List.mem_cons.1 hc with rfl | hc
    · exact ho.1
    · exact lens_all ho.2 c hc

def bslB (s : Nat) : List AV → Bool
  | [] => true
  | v :: r => v.cells.length == s && frees v.cells && bslB s r

theorem bsl_all {s : Nat} : ∀ {l : List AV}, bslB s l = true → ∀ v ∈ l, v.cells.length = s ∧ ∀ c ∈ v.cells, c.free = true
  | [], _, c, hc => by simp at hc
  | x :: r, ho, c, hc => by
    simp only [bslB, Bool.and_eq_true, beq_iff_eq] at ho
    rcases List.mem_cons.1 hc with rfl | hc
    · exact ⟨ho.1.1, frees_all ho.1.2⟩
    · exact bsl_all ho.2 c hc

def clenB (s : Nat) : List AV → Bool
  | [] => true
  | v :: r => v.cells.length == s && clenB s r

theorem clen_all {s : Nat} : ∀ {l : List AV}, clenB s l = true → ∀ v ∈ l, v.cells.length = s
  | [], _, c, hc => by simp at hc
  | x :: r, ho, c, hc => by
    simp only [clenB, Bool.and_eq_true, beq_iff_eq] at ho
    rcases List.mem_cons.1 hc with rfl | hc
    · exact ho.1
    · exact clen_all ho.2 c hc

/-- a test that the evaluation itself makes -/
def chk (b : Bool) (K : Prop) : Prop := match b with
  | true => K
  | false => False
theorem chk_eq (b : Bool) (K : Prop) : chk b K = (b = true ∧ K) := by cases b <;> simp [chk]

theorem okcs_iff {h : Heap} : ∀ {l : List AV}, okcs h l = true ↔ ∀ c ∈ l, c.okc h
  | [] => by simp [okcs]
  | x :: r => by
    have : okcB h x = true ↔ x.okc h := by cases x <;> simp [okcB, AV.okc]
    simp [okcs, this, okcs_iff (l := r)]
theorem okvs_iff {h : Heap} : ∀ {l : List AV}, okvs h l = true ↔ ∀ v ∈ l, ∀ c ∈ v.cells, c.okc h
  | [] => by simp [okvs]
  | x :: r => by simp [okvs, okcs_iff, okvs_iff (l := r)]
theorem frees_iff : ∀ {l : List AV}, frees l = true ↔ ∀ c ∈ l, c.free = true
  | [] => by simp [frees]
  | x :: r => by simp [frees, frees_iff (l := r)]
theorem bsl_iff {s : Nat} : ∀ {l : List AV}, bslB s l = true ↔ ∀ v ∈ l, v.cells.length = s ∧ ∀ c ∈ v.cells, c.free = true
  | [] => by simp [bslB]
  | x :: r => by simp [bslB, frees_iff, bsl_iff (l := r)]
theorem clen_iff {s : Nat} : ∀ {l : List AV}, clenB s l = true ↔ ∀ v ∈ l, v.cells.length = s
  | [] => by simp [clenB]
  | x :: r => by simp [clenB, clen_iff (l := r)]

def hasLen {α : Type} : List α → Nat → Bool
  | [], 0 => true
  | _ :: r, n + 1 => hasLen r n
  | _, _ => false
theorem hasLen_iff {α : Type} : ∀ {l : List α} {n : Nat}, hasLen l n = true ↔ l.length = n
  | [], 0 => by simp [hasLen]
  | [], n + 1 => by simp [hasLen]
  | _ :: r, 0 => by simp [hasLen]
  | _ :: r, n + 1 => by simp [hasLen, hasLen_iff (l := r)]
def atLeast {α : Type} : List α → Nat → Bool
  | _, 0 => true
  | _ :: r, n + 1 => atLeast r n
  | _, _ => false
theorem atLeast_iff {α : Type} : ∀ {l : List α} {n : Nat}, atLeast l n = true ↔ n ≤ l.length
  | [], 0 => by simp [atLeast]
  | [], n + 1 => by simp [atLeast]
  | _ :: r, 0 => by simp [atLeast]
  | _ :: r, n + 1 => by simp [atLeast, atLeast_iff (l := r)]
def allLive (h : Heap) : List Nat → Bool
  | [] => true
  | id :: r => (h id).isSome && allLive h r
theorem allLive_iff {h : Heap} : ∀ {l : List Nat}, allLive h l = true ↔ ∀ id ∈ l, (h id).isSome = true
  | [] => by simp [allLive]
  | x :: r => by simp [allLive, allLive_iff (l := r)]

end Go.Proofs.Ytpfbkblgefddlaa.Av
