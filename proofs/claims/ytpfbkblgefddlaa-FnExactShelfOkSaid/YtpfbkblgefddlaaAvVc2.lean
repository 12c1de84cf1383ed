/- The same condition in a form that is quick to evaluate: truths are parted where they arise, values are brought to their head form. -/
import Derived.Test.YtpfbkblgefddlaaAvVc
namespace Go.Proofs.Ytpfbkblgefddlaa.Av
set_option linter.unusedSimpArgs false
set_option linter.unusedVariables false
open Go

def force (v : AV) (K : AV → Prop) : Prop := match v with
  | .top => K .top
  | .undef => K .undef
  | .int k n => K (.int k n)
  | .bool b => (b = true → K (.bool true)) ∧ (b = false → K (.bool false))
  | .str s => K (.str s)
  | .agg vs => K (.agg vs)
  | .tup vs => K (.tup vs)
  | .ref id off len => K (.ref id off len)
  | .snil => K .snil
  | .val rows => K (.val rows)
  | .ptr id i off => K (.ptr id i off)
  | .rptr row off => K (.rptr row off)
  | .pnil => K .pnil
  | .fn f caps => K (.fn f caps)
  | .fnil => K .fnil

theorem force_eq (v : AV) (K : AV → Prop) : force v K = K v := by
  cases v <;> try rfl
  rename_i b
  cases b <;> simp [force]

/-- a new truth is parted, what is moved is not -/
def force0 (v : AV) (K : AV → Prop) : Prop := match v with
  | .top => K .top
  | .undef => K .undef
  | .int k n => K (.int k n)
  | .bool true => K (.bool true)
  | .bool false => K (.bool false)
  | .str s => K (.str s)
  | .agg vs => K (.agg vs)
  | .tup vs => K (.tup vs)
  | .ref id off len => K (.ref id off len)
  | .snil => K .snil
  | .val rows => K (.val rows)
  | .ptr id i off => K (.ptr id i off)
  | .rptr row off => K (.rptr row off)
  | .pnil => K .pnil
  | .fn f caps => K (.fn f caps)
  | .fnil => K .fnil

theorem force0_eq (v : AV) (K : AV → Prop) : force0 v K = K v := by
  cases v <;> try rfl
  rename_i b
  cases b <;> rfl

def Tag.makes : Tag → Bool
  | .bin _ | .beq _ | .ld1 | .fld1 _ | .ext _ | .call _ | .dyn | .aidx _ => true
  | _ => false

def forceT (t : Tag) (v : AV) (K : AV → Prop) : Prop := match t.makes with
  | true => force v K
  | false => force0 v K

theorem forceT_eq (t : Tag) (v : AV) (K : AV → Prop) : forceT t v K = K v := by
  unfold forceT
  split
  · exact force_eq v K
  · exact force0_eq v K

def guardK2 (o : IOper) (e : Env) (yes no : Prop) : Prop := match o.g with
  | none => yes
  | some (t, b) => match e t with
    | .bool c => (match c, b with
      | true, true => yes
      | false, false => yes
      | true, false => no
      | false, true => no)
    | .undef => no
    | _ => False

theorem guardK2_eq (o : IOper) (e : Env) (yes no : Prop) : guardK2 o e yes no = guardK o e yes no := by
  unfold guardK2 guardK
  cases o.g with
  | none => rfl
  | some g =>
    obtain ⟨t, b⟩ := g
    simp only []
    cases e t <;> try rfl
    rename_i c
    cases c <;> cases b <;> simp

def condK2 (v : AV) (yes no : Prop) : Prop := match v with
  | .bool c => (match c with
    | true => yes
    | false => no)
  | _ => False

theorem condK2_eq (v : AV) (yes no : Prop) : condK2 v yes no = condK v yes no := by
  unfold condK2 condK
  cases v <;> try rfl
  rename_i c
  cases c <;> simp

/- (written with the recursors themselves: the kernel and the elaborator then evaluate to the same terms) -/
def regK2 (Γ : Ctx) (l : List IOper) : Env → Heap → Nat → (Env → Heap → Nat → Prop) → Prop :=
  List.rec (motive := fun _ => Env → Heap → Nat → (Env → Heap → Nat → Prop) → Prop) (fun e h n K => K e h n)
    (fun o _ ih e h n K => guardK2 o e (opK Γ o e h n fun v h' n' => forceT o.tag v fun v => ih (e.updo o.dst v) h' n' K) (ih (e.updo o.dst .undef) h n K)) l

theorem regK2_eq (Γ : Ctx) : ∀ (l : List IOper) (e : Env) (h : Heap) (n : Nat) (K : Env → Heap → Nat → Prop), regK2 Γ l e h n K = regK Γ l e h n K
  | [], e, h, n, K => rfl
  | o :: r, e, h, n, K => by
    show guardK2 o e (opK Γ o e h n fun v h' n' => forceT o.tag v fun v => regK2 Γ r (e.updo o.dst v) h' n' K) (regK2 Γ r (e.updo o.dst .undef) h n K) = _
    simp only [regK, guardK2_eq, regK2_eq Γ r, forceT_eq]

def drwK2 (Γ : Ctx) (l : List IOper) : Env → Heap → Nat → (Env → Heap → Nat → Prop) → Prop :=
  List.rec (motive := fun _ => Env → Heap → Nat → (Env → Heap → Nat → Prop) → Prop) (fun e h n K => K e h n)
    (fun o _ ih e h n K => guardK2 o e (opD Γ o e h n fun v h' n' => forceT o.tag v fun v => ih (e.updo o.dst v) h' n' K) (ih (e.updo o.dst .undef) h n K)) l

theorem drwK2_eq (Γ : Ctx) : ∀ (l : List IOper) (e : Env) (h : Heap) (n : Nat) (K : Env → Heap → Nat → Prop), drwK2 Γ l e h n K = drwK Γ l e h n K
  | [], e, h, n, K => rfl
  | o :: r, e, h, n, K => by
    show guardK2 o e (opD Γ o e h n fun v h' n' => forceT o.tag v fun v => drwK2 Γ r (e.updo o.dst v) h' n' K) (drwK2 Γ r (e.updo o.dst .undef) h n K) = _
    simp only [drwK, guardK2_eq, drwK2_eq Γ r, forceT_eq]

def vc2 (P : Program) (N k : Nat) (Γ : Ctx) (ic : ICode) : XK → Env → Heap → Nat → Prop :=
  ICode.rec (motive := fun _ => XK → Env → Heap → Nat → Prop)
    (fun K e h n => K .normal e h n)
    (fun ios K e h n => regK2 Γ ios e h n (K .normal))
    (fun ios K e h n => drwK2 Γ ios e h n (K .normal))
    (fun _ _ va vb K e h n => va (thenK (vb K) K) e h n)
    (fun z _ _ vx vy K e h n => condK2 (z.ev e) (vx K e h n) (vy K e h n))
    (fun id _ vb K e h n => vb (blockK id K) e h n)
    (fun b _ K e h n => Lp P N k b K e h n)
    (fun id K e h n => K (.exit id) e h n)
    (fun K e h n => K .ret e h n) ic

theorem vc2_eq (P : Program) (N k : Nat) (Γ : Ctx) : ∀ (ic : ICode) (K : XK) (e : Env) (h : Heap) (n : Nat), vc2 P N k Γ ic K e h n = vc P N k Γ ic K e h n
  | .skip, _, _, _, _ => rfl
  | .reg ios, K, e, h, n => by show regK2 Γ ios e h n (K .normal) = _; simp only [vc, regK2_eq]
  | .drw ios, K, e, h, n => by show drwK2 Γ ios e h n (K .normal) = _; simp only [vc, drwK2_eq]
  | .seq a b, K, e, h, n => by
    have hb : vc2 P N k Γ b K = vc P N k Γ b K := by funext e h n; exact vc2_eq P N k Γ b K e h n
    show vc2 P N k Γ a (thenK (vc2 P N k Γ b K) K) e h n = _
    simp only [vc, hb, vc2_eq P N k Γ a]
  | .cond z x y, K, e, h, n => by
    show condK2 (z.ev e) (vc2 P N k Γ x K e h n) (vc2 P N k Γ y K e h n) = _
    simp only [vc, condK2_eq, vc2_eq P N k Γ x, vc2_eq P N k Γ y]
  | .block id b, K, e, h, n => by
    show vc2 P N k Γ b (blockK id K) e h n = _
    simp only [vc, vc2_eq P N k Γ b]
  | .loop b, _, _, _, _ => rfl
  | .exit id, _, _, _, _ => rfl
  | .ret, _, _, _, _ => rfl

theorem vc2_sound {P : Program} {N k : Nat} {Γ : Ctx} (hR : Rely P Γ) (ic : ICode) (K : XK) (e : Env) (h : Heap) (n : Nat) (hv : vc2 P N k Γ ic K e h n) : Aw P N k ic K e h n :=
  vc_sound hR ic K e h n (by rw [← vc2_eq]; exact hv)

end Go.Proofs.Ytpfbkblgefddlaa.Av
