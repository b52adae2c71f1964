/- Part 4 of a proof: a Go function is evaluated on abstract values (texts AiEx .. AiArg2); no conditions beyond those of each theorem. -/
import Derived.Test.YtoofpdaplnjmdaaGreatDoorAi3
import Derived.Lib.Bytealg
import GoSem.Op.String
import Derived.Lib.ItoaNum
import Derived.Lib.LastIndexLaws
import Derived.Lib.Split
import Derived.Lib.CountLaws
import Derived.Lib.AtoiAllCases
import Derived.OpenShut
import Derived.Carry
import Derived.Deep.Slices
import Derived.ChangeOld
import Derived.Lib.LaidTab
import Derived.ChangeSame
import Derived.Deep.Strs
import Derived.Lib.SmallJoins
set_option linter.all false
set_option linter.unusedVariables false
set_option linter.unusedSimpArgs false
set_option linter.unnecessarySimpa false
section
/- A function's results, where they are known by what holds of them. No program is in sight. -/
namespace Go.AI
set_option linter.unusedVariables false
section
variable {P : Program}
theorem EV_postE {H : FuncId → Hint} {T : Table} {f : FuncId} {fn : Func} {c : Code} {as : List AV} {s : List (List AV)} {Φ : AV × List (List AV) → Prop} (hT : T f = none) (hf : P.funcs[AI.base f]? = some fn) (hb : fn.body = some c)
    (hn : as.length ≤ fn.ntmps) (hc : codeOk (H f) fn.ntmps c = true) (hg : (fn.name == "runtime.NumGoroutine") = false)
    (hp : Post (EXEC P (H f) (EV P H T) c ⟨params 0 as, [], s⟩) fun e st => ∃ r, finE P (H f) s fn (some (e, st)) = some r ∧ Φ r) (h9 : f < 900000 := by decide) : ∃ r, EV P H T f as s = some r ∧ Φ r := by
  obtain ⟨e, st, h1, r, h2, h3⟩ := hp
  exact ⟨r, EV_post hT hf hb hn hc hg ⟨e, st, h1, h2⟩ h9, h3⟩
end
end Go.AI
end
section
/- What is seen of arguments in a call that only looks. No program is in sight. -/
namespace Go.AI
set_option linter.unusedVariables false
/-- boxes in a row -/
def msRow (ty a n k : Nat) : List AV := (List.range n).map fun i => .ms ty 1 (a + i) 0 k
end Go.AI
end
section
/- Orders: plain. No program is in sight. -/
namespace Go.AI

/-- a comparison that is an order, and tells apart -/
structure TO {α : Type} (c : α → α → Int) : Prop where
  sgn : ∀ a b, c a b = -1 ∨ c a b = 0 ∨ c a b = 1
  flip : ∀ a b, c b a = - c a b
  trans : ∀ a b d, c a b ≤ 0 → c b d ≤ 0 → c a d ≤ 0
  eq : ∀ a b, c a b = 0 → a = b

namespace TO
variable {α β : Type} {c : α → α → Int} {d : β → β → Int}
theorem refl (h : TO c) (a : α) : c a a = 0 := by have := h.flip a a; omega
theorem eq_iff (h : TO c) (a b : α) : c a b = 0 ↔ a = b := ⟨h.eq a b, fun e => by subst e; exact h.refl a⟩
theorem lt_le (h : TO c) {a b e : α} (h1 : c a b < 0) (h2 : c b e ≤ 0) : c a e < 0 := by
  have h3 := h.trans a b e (by omega) h2
  rcases Int.lt_or_eq_of_le h3 with q | q
  · exact q
  · have := h.eq _ _ q; subst this
    have := h.flip a b; omega
theorem le_lt (h : TO c) {a b e : α} (h1 : c a b ≤ 0) (h2 : c b e < 0) : c a e < 0 := by
  have h3 := h.trans a b e h1 (by omega)
  rcases Int.lt_or_eq_of_le h3 with q | q
  · exact q
  · have := h.eq _ _ q; subst this
    have := h.flip a b; omega
theorem comap (h : TO c) (f : β → α) (hf : ∀ x y, f x = f y → x = y) : TO fun x y => c (f x) (f y) :=
  ⟨fun _ _ => h.sgn _ _, fun _ _ => h.flip _ _, fun _ _ _ => h.trans _ _ _, fun _ _ e => hf _ _ (h.eq _ _ e)⟩
end TO

def orI (x y : Int) : Int := if x = 0 then y else x
theorem TO.prod {α β : Type} {c : α → α → Int} {d : β → β → Int} (h : TO c) (k : TO d) : TO fun (x y : α × β) => orI (c x.1 y.1) (d x.2 y.2) := by
  refine ⟨fun a b => ?_, fun a b => ?_, fun a b e => ?_, fun a b => ?_⟩
  · unfold orI; split; exact k.sgn _ _; exact h.sgn _ _
  · unfold orI
    have := h.flip a.1 b.1; have := k.flip a.2 b.2
    split <;> split <;> omega
  · intro h1 h2
    unfold orI at h1 h2 ⊢
    by_cases q1 : c a.1 b.1 = 0
    · rw [if_pos q1] at h1
      have e1 := h.eq _ _ q1
      by_cases q2 : c b.1 e.1 = 0
      · rw [if_pos q2] at h2
        have e2 := h.eq _ _ q2
        rw [e1, e2, h.refl, if_pos rfl]
        exact k.trans _ _ _ h1 h2
      · rw [if_neg q2] at h2
        rw [e1, if_neg q2]; exact h2
    · rw [if_neg q1] at h1
      by_cases q2 : c b.1 e.1 = 0
      · have e2 := h.eq _ _ q2
        rw [← e2, if_neg q1]; exact h1
      · rw [if_neg q2] at h2
        have := h.lt_le (a := a.1) (b := b.1) (e := e.1) (by omega) h2
        rw [if_neg (by omega)]; omega
  · intro e
    unfold orI at e
    split at e
    · rename_i q; exact Prod.ext (h.eq _ _ q) (k.eq _ _ e)
    · rename_i q; exact absurd e q

def natC (a b : Nat) : Int := if a < b then -1 else if b < a then 1 else 0
theorem TO.nat : TO natC := by
  refine ⟨fun a b => ?_, fun a b => ?_, fun a b e => ?_, fun a b => ?_⟩ <;> unfold natC <;> (repeat' split) <;> omega
def u8C (a b : UInt8) : Int := natC a.toNat b.toNat
theorem TO.u8 : TO u8C := TO.nat.comap UInt8.toNat fun _ _ e => UInt8.toNat_inj.1 e

/-- lists, by their first unlike members; a shorter one ahead -/
def lexC {α : Type} (c : α → α → Int) : List α → List α → Int
  | [], [] => 0
  | [], _ :: _ => -1
  | _ :: _, [] => 1
  | a :: x, b :: y => orI (c a b) (lexC c x y)
theorem TO.lex {α : Type} {c : α → α → Int} (h : TO c) : TO (lexC c) := by
  refine ⟨fun a => ?_, fun a => ?_, fun a => ?_, fun a => ?_⟩
  · induction a with
    | nil => intro b; cases b <;> simp [lexC]
    | cons a x ih =>
      intro b
      cases b with
      | nil => simp [lexC]
      | cons b y => simp only [lexC, orI]; split; exact ih y; exact h.sgn _ _
  · induction a with
    | nil => intro b; cases b <;> simp [lexC]
    | cons a x ih =>
      intro b
      cases b with
      | nil => simp [lexC]
      | cons b y =>
        simp only [lexC, orI]
        have := ih y; have := h.flip a b
        split <;> split <;> omega
  · induction a with
    | nil => intro b e h1 h2; cases b <;> cases e <;> simp [lexC] at *
    | cons a x ih =>
      intro b e h1 h2
      cases b with
      | nil => simp [lexC] at h1
      | cons b y =>
        cases e with
        | nil => simp [lexC] at h2
        | cons e z =>
          simp only [lexC, orI] at h1 h2 ⊢
          by_cases q1 : c a b = 0
          · rw [if_pos q1] at h1
            have e1 := h.eq _ _ q1; subst e1
            split at h2
            · rename_i q2; rw [if_pos q2]; exact ih _ _ h1 h2
            · rename_i q2; rw [if_neg q2]; exact h2
          · rw [if_neg q1] at h1
            by_cases q2 : c b e = 0
            · have e2 := h.eq _ _ q2; subst e2; rw [if_neg q1]; exact h1
            · rw [if_neg q2] at h2
              have := h.lt_le (a := a) (b := b) (e := e) (by omega) h2
              rw [if_neg (by omega)]; omega
  · induction a with
    | nil => intro b e; cases b with
      | nil => rfl
      | cons => simp [lexC] at e
    | cons a x ih =>
      intro b e
      cases b with
      | nil => simp [lexC] at e
      | cons b y =>
        simp only [lexC, orI] at e
        split at e
        · rename_i q; rw [h.eq _ _ q, ih _ e]
        · rename_i q; exact absurd e q
/-- texts -/
def bytesC : List UInt8 → List UInt8 → Int := lexC u8C
theorem TO.bytes : TO bytesC := TO.u8.lex
end Go.AI
end
section
/- Texts: places of a byte, pieces. Plain: no program is in sight. -/
namespace Go.AI

/-- the first place of a byte -/
def ix (c : UInt8) : List UInt8 → Option Nat
  | [] => none
  | b :: r => if b = c then some 0 else (ix c r).map (· + 1)
def ixI (c : UInt8) (l : List UInt8) : Int := match ix c l with
  | some n => n
  | none => -1
theorem indexByte_eq (l : List UInt8) (c : UInt8) : Lib.indexByte l c = ixI c l := by
  induction l with
  | nil => rfl
  | cons b r ih =>
    simp only [Lib.indexByte, ih, ixI, ix, beq_iff_eq]
    split
    · rfl
    · cases ix c r with
      | none => rfl
      | some n => simp only [Option.map_some]; rw [if_neg (by omega)]; omega
theorem ix_none {c : UInt8} {l : List UInt8} : ix c l = none ↔ c ∉ l := by
  induction l with
  | nil => simp [ix]
  | cons b r ih =>
    simp only [ix, List.mem_cons, not_or]
    split
    · rename_i h; simp [h]
    · rename_i h
      rw [Option.map_eq_none_iff, ih]
      exact ⟨fun q => ⟨fun e => h e.symm, q⟩, fun q => q.2⟩
theorem ix_some {c : UInt8} {l : List UInt8} {n : Nat} (h : ix c l = some n) : n < l.length ∧ l[n]? = some c ∧ c ∉ l.take n ∧ l = l.take n ++ c :: l.drop (n + 1) := by
  induction l generalizing n with
  | nil => simp [ix] at h
  | cons b r ih =>
    simp only [ix] at h
    split at h
    · rename_i e; subst e; injection h with h; subst h; simp
    · rename_i e
      obtain ⟨m, hm, rfl⟩ := Option.map_eq_some_iff.1 h
      obtain ⟨h1, h2, h3, h4⟩ := ih hm
      refine ⟨by simp; omega, by simpa using h2, ?_, ?_⟩
      · simp only [List.take_succ_cons, List.mem_cons, not_or]; exact ⟨fun q => e q.symm, h3⟩
      · simp only [List.take_succ_cons, List.drop_succ_cons, List.cons_append]; rw [← h4]
theorem ix_app {c : UInt8} {x y : List UInt8} (h : c ∉ x) : ix c (x ++ c :: y) = some x.length := by
  induction x with
  | nil => simp [ix]
  | cons b r ih =>
    simp only [List.mem_cons, not_or] at h
    simp only [List.cons_append, ix, if_neg (fun q => h.1 (Eq.symm q)), ih h.2, Option.map_some, List.length_cons]

/-- before and behind the first place -/
def cutB (c : UInt8) (l : List UInt8) : List UInt8 × List UInt8 × Bool := match ix c l with
  | some n => (l.take n, l.drop (n + 1), true)
  | none => (l, [], false)
/-- the pieces between -/
def splitB (c : UInt8) : List UInt8 → List (List UInt8)
  | [] => [[]]
  | b :: r => if b = c then [] :: splitB c r else match splitB c r with
    | [] => [[b]]
    | h :: t => (b :: h) :: t
theorem splitB_ne (c : UInt8) (l : List UInt8) : splitB c l ≠ [] := by
  cases l with
  | nil => simp [splitB]
  | cons b r => simp only [splitB]; split; simp; split <;> simp
theorem splitB_not {c : UInt8} {l : List UInt8} (h : c ∉ l) : splitB c l = [l] := by
  induction l with
  | nil => rfl
  | cons b r ih =>
    simp only [List.mem_cons, not_or] at h
    simp only [splitB, if_neg (fun q => h.1 (Eq.symm q)), ih h.2]
theorem splitB_app {c : UInt8} {x y : List UInt8} (h : c ∉ x) : splitB c (x ++ c :: y) = x :: splitB c y := by
  induction x with
  | nil => simp [splitB]
  | cons b r ih =>
    simp only [List.mem_cons, not_or] at h
    simp only [List.cons_append, splitB, if_neg (fun q => h.1 (Eq.symm q)), ih h.2]
theorem splitB_ix {c : UInt8} {l : List UInt8} {n : Nat} (h : ix c l = some n) : splitB c l = l.take n :: splitB c (l.drop (n + 1)) := by
  obtain ⟨h1, h2, h3, h4⟩ := ix_some h
  conv => lhs; rw [h4]
  exact splitB_app h3
theorem splitB_none {c : UInt8} {l : List UInt8} (h : ix c l = none) : splitB c l = [l] := splitB_not (ix_none.1 h)
theorem splitB_len (c : UInt8) (l : List UInt8) : (splitB c l).length = Lib.countByte l c + 1 := by
  induction l with
  | nil => rfl
  | cons b r ih =>
    simp only [splitB, Lib.countByte] at ih ⊢
    by_cases e : b = c
    · subst e; simp [ih]
    · rw [if_neg e, List.count_cons_of_ne e, ← ih]
      have := splitB_ne c r
      split
      · rename_i q; exact absurd q this
      · rename_i q; rw [q]; simp
def joinB (c : UInt8) : List (List UInt8) → List UInt8
  | [] => []
  | [x] => x
  | x :: r => x ++ c :: joinB c r
theorem joinB_cons (c : UInt8) (x : List UInt8) {r : List (List UInt8)} (h : r ≠ []) : joinB c (x :: r) = x ++ c :: joinB c r := by
  cases r with
  | nil => exact absurd rfl h
  | cons => rfl
theorem join_split (c : UInt8) (l : List UInt8) : joinB c (splitB c l) = l := by
  induction l with
  | nil => rfl
  | cons b r ih =>
    simp only [splitB]
    split
    · rename_i e; rw [joinB_cons _ _ (splitB_ne _ _), ih, e]; rfl
    · split
      · rename_i q; exact absurd q (splitB_ne _ _)
      · rename_i h t q
        rw [q] at ih
        cases t with
        | nil => simp only [joinB] at ih ⊢; rw [ih]
        | cons y z => rw [joinB_cons _ _ (by simp)] at ih ⊢; rw [← ih]; rfl
/-- the last place of a byte -/
def lix (c : UInt8) : List UInt8 → Option Nat
  | [] => none
  | b :: r => match lix c r with
    | some n => some (n + 1)
    | none => if b = c then some 0 else none
def lixI (c : UInt8) (l : List UInt8) : Int := match lix c l with
  | some n => n
  | none => -1
theorem lix_some {c : UInt8} {l : List UInt8} {n : Nat} (h : lix c l = some n) : n < l.length ∧ l[n]? = some c ∧ c ∉ l.drop (n + 1) ∧ l = l.take n ++ c :: l.drop (n + 1) := by
  induction l generalizing n with
  | nil => simp [lix] at h
  | cons b r ih =>
    simp only [lix] at h
    split at h
    · rename_i m hm
      injection h with h; subst h
      obtain ⟨h1, h2, h3, h4⟩ := ih hm
      refine ⟨by simp; omega, by simpa using h2, by simpa using h3, ?_⟩
      simp only [List.take_succ_cons, List.drop_succ_cons, List.cons_append]; rw [← h4]
    · rename_i hm
      split at h
      · rename_i e; injection h with h; subst h; subst e
        have : ∀ {l : List UInt8}, lix b l = none → b ∉ l := by
          intro l
          induction l with
          | nil => simp
          | cons a s ih =>
            simp only [lix]
            split
            · intro q; cases q
            · rename_i q; split
              · intro q; cases q
              · rename_i e; intro _; simp only [List.mem_cons, not_or]; exact ⟨fun w => e w.symm, ih q⟩
        simp [this hm]
      · cases h
theorem lix_none {c : UInt8} {l : List UInt8} : lix c l = none ↔ c ∉ l := by
  induction l with
  | nil => simp [lix]
  | cons b r ih =>
    simp only [lix, List.mem_cons, not_or]
    cases hq : lix c r with
    | none =>
      rw [hq] at ih
      simp only [true_iff] at ih
      by_cases e : b = c
      · simp [e]
      · simp only [if_neg e, true_iff]; exact ⟨fun w => e w.symm, ih⟩
    | some n =>
      rw [hq] at ih
      simp only [reduceCtorEq, false_iff] at ih ⊢
      exact fun q => ih q.2
/-- the last piece stands behind the last place -/
theorem splitB_last (c : UInt8) (l : List UInt8) : (splitB c l).getLast (splitB_ne c l) = match lix c l with
    | some n => l.drop (n + 1)
    | none => l := by
  induction l with
  | nil => rfl
  | cons b r ih =>
    have hne := splitB_ne c r
    by_cases e : b = c
    · have h1 : splitB c (b :: r) = [] :: splitB c r := by simp [splitB, e]
      have h2 : (splitB c (b :: r)).getLast (splitB_ne c _) = (splitB c r).getLast hne := by
        simp only [h1]; rw [List.getLast_cons hne]
      rw [h2, ih]
      simp only [lix, e, if_true]
      cases lix c r <;> simp
    · obtain ⟨h, t, q⟩ : ∃ h t, splitB c r = h :: t := by cases hq : splitB c r with
        | nil => exact absurd hq hne
        | cons h t => exact ⟨h, t, rfl⟩
      have h1 : splitB c (b :: r) = (b :: h) :: t := by simp [splitB, e, q]
      simp only [q] at ih
      simp only [h1, lix, if_neg e]
      cases t with
      | nil =>
        simp only [List.getLast_singleton] at ih ⊢
        cases hl : lix c r with
        | none => rw [hl] at ih; simp only at ih ⊢; rw [ih]
        | some n =>
          rw [hl] at ih; simp only at ih
          have h3 := lix_some hl
          have h4 : c ∈ r := List.mem_of_getElem? h3.2.1
          have h5 : Lib.countByte r c + 1 = 1 := by rw [← splitB_len, q]; rfl
          have h6 := List.count_pos_iff.2 h4
          unfold Lib.countByte at h5; omega
      | cons y z =>
        rw [List.getLast_cons (by simp)] at ih ⊢
        rw [ih]
        cases hl : lix c r with
        | none =>
          rw [hl] at ih
          have h4 := splitB_not (lix_none.1 hl)
          rw [q] at h4; simp at h4
        | some n => simp

/-! The order of texts. -/
theorem compareBytes_eq (a b : List UInt8) : Lib.compareBytes a b = bytesC a b := by
  induction a generalizing b with
  | nil => cases b <;> rfl
  | cons x a ih =>
    cases b with
    | nil => rfl
    | cons y b =>
      simp only [Lib.compareBytes, ih, bytesC, lexC, orI, u8C, natC, UInt8.lt_iff_toNat_lt]
      by_cases h1 : x.toNat < y.toNat
      · simp [h1]
      · by_cases h2 : y.toNat < x.toNat
        · simp [h1, h2]
        · simp [h1, h2]
theorem bytesLess_eq (a b : List UInt8) : Op.bytesLess a b = decide (bytesC a b < 0) := by
  induction a generalizing b with
  | nil => cases b <;> simp [Op.bytesLess, bytesC, lexC]
  | cons x a ih =>
    cases b with
    | nil => simp [Op.bytesLess, bytesC, lexC]
    | cons y b =>
      simp only [Op.bytesLess, ih, bytesC, lexC, orI, u8C, natC, UInt8.lt_iff_toNat_lt, beq_iff_eq]
      by_cases h1 : x.toNat < y.toNat
      · simp [h1]
      · by_cases h2 : y.toNat < x.toNat
        · have : ¬ x = y := by rintro rfl; omega
          simp [h1, h2, this]
        · have : x = y := UInt8.toNat_inj.1 (by omega)
          subst this
          simp only [UInt8.lt_irrefl, Nat.lt_irrefl, if_false, decide_false, Bool.false_or, true_and, if_true, decide_true, Bool.true_and, beq_self_eq_true]
          rfl
end Go.AI
namespace Go.AI
theorem splitB_le {c : UInt8} {l x : List UInt8} (h : x ∈ splitB c l) : x.length ≤ l.length := by
  induction l generalizing x with
  | nil => simp [splitB] at h; subst h; simp
  | cons b r ih =>
    simp only [splitB] at h
    split at h
    · rcases List.mem_cons.1 h with rfl | h
      · simp
      · have := ih h; simp; omega
    · split at h
      · rename_i q; exact absurd q (splitB_ne _ _)
      · rename_i h0 t q
        rcases List.mem_cons.1 h with rfl | h
        · have := ih (x := h0) (q ▸ List.mem_cons_self); simp; omega
        · have := ih (q ▸ List.mem_cons_of_mem _ h); simp; omega
theorem splitB_many (c : UInt8) (l : List UInt8) : (splitB c l).length ≤ l.length + 1 := by
  rw [splitB_len]; have : Lib.countByte l c ≤ l.length := List.count_le_length; omega
theorem cutB_le (c : UInt8) (l : List UInt8) : (cutB c l).1.length ≤ l.length ∧ (cutB c l).2.1.length ≤ l.length := by
  unfold cutB
  split
  · simp; omega
  · simp
end Go.AI
end
section
/- Versions: plain. No program is in sight. -/
namespace Go.AI

def isD (c : UInt8) : Bool := decide (48 ≤ c.toNat ∧ c.toNat ≤ 57)
def isU (c : UInt8) : Bool := decide (65 ≤ c.toNat ∧ c.toNat ≤ 90)
def isL (c : UInt8) : Bool := decide (97 ≤ c.toNat ∧ c.toNat ≤ 122)
def isH (c : UInt8) : Bool := decide (128 ≤ c.toNat)
def allB (p : UInt8 → Bool) (s : List UInt8) : Bool := s.all p && !s.isEmpty
def plainB (s : List UInt8) : Bool := match s with
  | [] => false
  | c :: r => c != 48 || r.isEmpty
def valB (s : List UInt8) : Nat := s.foldl (fun n c => n * 10 + (c.toNat - 48)) 0
def numOk (s : List UInt8) : Bool := allB isD s && plainB s && decide (s.length ≤ 9)
def numB (s : List UInt8) : Option Nat := if numOk s then some (valB s) else none
def wordB (others : List UInt8) (c : UInt8) : Bool := isD c || isU c || isL c || decide (c ∈ others)
def idB (s : List UInt8) : Bool := allB (wordB [45]) s && !(allB isD s && !plainB s)
def idsB (p : List UInt8) : Bool := (splitB 46 p).all idB
structure Ver where
  ma : Nat
  mi : Nat
  pa : Nat
  pre : List UInt8
  deriving DecidableEq
def coreOf (r : List UInt8) : Option (Nat × Nat × Nat) := match splitB 46 r with
  | [a, b, c] => match numB a, numB b, numB c with
    | some x, some y, some z => some (x, y, z)
    | _, _, _ => none
  | _ => none
def readB (s : List UInt8) : Option Ver := if 60 < s.length then none else match s with
  | [] => none
  | c :: r => if c ≠ 118 then none else match coreOf (cutB 45 r).1 with
    | none => none
    | some (x, y, z) => if (cutB 45 r).2.2 && !idsB (cutB 45 r).2.1 then none else some ⟨x, y, z, (cutB 45 r).2.1⟩

theorem snocInd {α : Type} {P : List α → Prop} (h0 : P []) (h1 : ∀ l c, P l → P (l ++ [c])) (l : List α) : P l := by
  have : ∀ n (l : List α), l.length = n → P l := by
    intro n
    induction n with
    | zero => intro l h; rw [List.length_eq_zero_iff.1 h]; exact h0
    | succ n ih =>
      intro l h
      have hne : l ≠ [] := by rintro rfl; simp at h
      rw [← List.dropLast_concat_getLast hne]
      exact h1 _ _ (ih _ (by simp [h]))
  exact this _ l rfl
/-! numbers and their digits -/
theorem valB_snoc (l : List UInt8) (c : UInt8) : valB (l ++ [c]) = valB l * 10 + (c.toNat - 48) := by simp [valB, List.foldl_append]
theorem valB_lt (s : List UInt8) (h : s.all isD = true) : valB s < 10 ^ s.length := by
  revert h
  refine snocInd (P := fun s => s.all isD = true → valB s < 10 ^ s.length) ?_ ?_ s
  · intro h; simp [valB]
  · intro l c ih h
    rw [List.all_append, Bool.and_eq_true] at h
    have := ih h.1
    have h2 := h.2
    simp [isD] at h2
    rw [valB_snoc, List.length_append, List.length_singleton, Nat.pow_succ]; omega
theorem numB_lt {s : List UInt8} {n : Nat} (h : numB s = some n) : n < 1000000000 := by
  unfold numB at h
  split at h
  · rename_i q
    injection h with h
    simp [numOk, allB] at q
    have := valB_lt s (List.all_eq_true.2 q.1.1.1)
    have h3 : 10 ^ s.length ≤ 10 ^ 9 := Nat.pow_le_pow_right (by omega) q.2
    omega
  · cases h
theorem dig_c {c : UInt8} (h : isD c = true) : UInt8.ofNat (48 + (c.toNat - 48)) = c := by
  simp [isD] at h
  rw [show 48 + (c.toNat - 48) = c.toNat by omega]; simp
/-- digits without 0 ahead are what is printed of their number -/
theorem digits_val (s : List UInt8) (h : s.all isD = true) (hp : plainB s = true) : Lib.decDigits (valB s) = s := by
  revert h hp
  refine snocInd (P := fun s => s.all isD = true → plainB s = true → Lib.decDigits (valB s) = s) ?_ ?_ s
  · intro h hp; simp [plainB] at hp
  · intro l c ih h hp
    rw [List.all_append, Bool.and_eq_true] at h
    have hc : isD c = true := by simpa using h.2
    have hd : c.toNat - 48 < 10 := by simp [isD] at hc; omega
    rw [valB_snoc]
    cases l with
    | nil =>
      rw [Lib.decDigits, dif_pos (by simp [valB]; omega)]
      simp [valB, dig_c hc]
    | cons a r =>
      have hp' : plainB (a :: r) = true ∧ a ≠ 48 := by
        simp [plainB] at hp ⊢; exact ⟨.inl hp, hp⟩
      have hl := ih h.1 hp'.1
      have h0 : valB (a :: r) ≠ 0 := by
        intro e
        rw [e, Lib.decDigits, dif_pos (by omega)] at hl
        simp at hl
        exact hp'.2 hl.1.symm
      rw [Lib.decDigits, dif_neg (by omega), show (valB (a :: r) * 10 + (c.toNat - 48)) / 10 = valB (a :: r) by omega, show (valB (a :: r) * 10 + (c.toNat - 48)) % 10 = c.toNat - 48 by omega, hl, dig_c hc]
theorem numB_digits {s : List UInt8} {n : Nat} (h : numB s = some n) : Lib.decDigits n = s := by
  unfold numB at h
  split at h
  · rename_i q
    injection h with h
    subst h
    simp only [numOk, allB, Bool.and_eq_true] at q
    exact digits_val s q.1.1.1 q.1.2
  · cases h

/-! the text of a version -/
def verT (v : Ver) : List UInt8 := 118 :: (Lib.decDigits v.ma ++ 46 :: (Lib.decDigits v.mi ++ 46 :: Lib.decDigits v.pa)) ++ (if v.pre = [] then [] else 45 :: v.pre)
theorem coreOf_text {r : List UInt8} {x y z : Nat} (h : coreOf r = some (x, y, z)) : r = Lib.decDigits x ++ 46 :: (Lib.decDigits y ++ 46 :: Lib.decDigits z) := by
  unfold coreOf at h
  split at h
  · rename_i a b c hs
    split at h
    · rename_i x' y' z' ha hb hc
      injection h with h
      simp only [Prod.mk.injEq] at h
      obtain ⟨rfl, rfl, rfl⟩ := h
      rw [numB_digits ha, numB_digits hb, numB_digits hc, ← join_split 46 r, hs]
      rfl
    · cases h
  · cases h
theorem coreOf_lt {r : List UInt8} {x y z : Nat} (h : coreOf r = some (x, y, z)) : x < 1000000000 ∧ y < 1000000000 ∧ z < 1000000000 := by
  unfold coreOf at h
  split at h
  · split at h
    · rename_i x' y' z' ha hb hc
      injection h with h
      simp only [Prod.mk.injEq] at h
      obtain ⟨rfl, rfl, rfl⟩ := h
      exact ⟨numB_lt ha, numB_lt hb, numB_lt hc⟩
    · cases h
  · cases h
theorem idsB_ne {p : List UInt8} (h : idsB p = true) : p ≠ [] := by
  rintro rfl
  simp [idsB, splitB, idB, allB] at h
theorem cutB_text (c : UInt8) (l : List UInt8) : ((cutB c l).2.2 = true ∧ l = (cutB c l).1 ++ c :: (cutB c l).2.1) ∨ ((cutB c l).2.2 = false ∧ (cutB c l).1 = l ∧ (cutB c l).2.1 = []) := by
  unfold cutB
  cases h : ix c l with
  | none => exact .inr ⟨rfl, rfl, rfl⟩
  | some n => exact .inl ⟨rfl, (ix_some h).2.2.2⟩
/-- what a version says -/
structure ReadAs (s : List UInt8) (v : Ver) : Prop where
  text : s = verT v
  ma : v.ma < 1000000000
  mi : v.mi < 1000000000
  pa : v.pa < 1000000000
  len : s.length ≤ 60
  pre : v.pre = [] ∨ idsB v.pre = true
theorem readB_some {s : List UInt8} {v : Ver} (h : readB s = some v) : ReadAs s v := by
  unfold readB at h
  split at h
  · cases h
  · rename_i hl
    split at h
    · cases h
    · rename_i c r
      split at h
      · cases h
      · rename_i hc
        have hc : c = 118 := by simpa using hc
        subst hc
        split at h
        · cases h
        · rename_i x y z hcore
          split at h
          · cases h
          · rename_i hids
            injection h with h
            subst h
            have ht := coreOf_text hcore
            have hlt := coreOf_lt hcore
            refine ⟨?_, hlt.1, hlt.2.1, hlt.2.2, by omega, ?_⟩
            · rcases cutB_text 45 r with ⟨h1, h2⟩ | ⟨h1, h2, h3⟩
              · have hp : (cutB 45 r).2.1 ≠ [] := by
                  rw [h1] at hids
                  simp at hids
                  exact idsB_ne hids
                unfold verT
                simp only [if_neg hp]
                rw [← ht]
                conv => lhs; rw [h2]
                simp
              · unfold verT
                simp only [h3, if_true, List.append_nil]
                rw [← ht, h2]
            · rcases cutB_text 45 r with ⟨h1, h2⟩ | ⟨h1, h2, h3⟩
              · rw [h1] at hids; simp at hids; exact .inr hids
              · exact .inl h3
theorem readB_inj {s t : List UInt8} {v : Ver} (h : readB s = some v) (k : readB t = some v) : s = t := (readB_some h).text.trans (readB_some k).text.symm

/-! the order of versions -/
def idC (a b : List UInt8) : Int := if allB isD a = true then (if allB isD b = true then orI (natC a.length b.length) (bytesC a b) else -1) else if allB isD b = true then 1 else bytesC a b
def presC (a b : List UInt8) : Int := if a = [] ∨ b = [] then natC (min b.length 1) (min a.length 1) else lexC idC (splitB 46 a) (splitB 46 b)
def verC (x y : Ver) : Int := orI (natC x.ma y.ma) (orI (natC x.mi y.mi) (orI (natC x.pa y.pa) (presC x.pre y.pre)))
def cmpB (a b : List UInt8) : Int := match readB a, readB b with
  | none, none => bytesC a b
  | none, some _ => -1
  | some _, none => 1
  | some x, some y => verC x y
/-- the sum of two orders -/
def sumC {α β : Type} (c : α → α → Int) (d : β → β → Int) : α ⊕ β → α ⊕ β → Int
  | .inl a, .inl b => c a b
  | .inl _, .inr _ => -1
  | .inr _, .inl _ => 1
  | .inr a, .inr b => d a b
theorem TO.sum {α β : Type} {c : α → α → Int} {d : β → β → Int} (h : TO c) (k : TO d) : TO (sumC c d) := by
  refine ⟨fun a b => ?_, fun a b => ?_, fun a b e => ?_, fun a b => ?_⟩
  · cases a <;> cases b <;> first | exact h.sgn _ _ | exact k.sgn _ _ | exact .inl rfl | exact .inr (.inr rfl)
  · cases a <;> cases b <;> first | exact h.flip _ _ | exact k.flip _ _ | rfl
  · cases a <;> cases b <;> cases e <;> simp only [sumC] <;> first | exact h.trans _ _ _ | exact k.trans _ _ _ | (intros; omega)
  · cases a <;> cases b <;> intro e <;> first | rw [h.eq _ _ e] | rw [k.eq _ _ e] | (simp [sumC] at e)
def idKey (a : List UInt8) : (Nat × List UInt8) ⊕ List UInt8 := if allB isD a = true then .inl (a.length, a) else .inr a
theorem TO.id : TO idC := by
  have h := ((TO.nat.prod TO.bytes).sum TO.bytes).comap idKey (by
    intro x y e
    unfold idKey at e
    split at e <;> split at e
    · injection e with e; injection e
    · cases e
    · cases e
    · injection e)
  have : idC = fun x y => sumC (fun (x y : Nat × List UInt8) => orI (natC x.1 y.1) (bytesC x.2 y.2)) bytesC (idKey x) (idKey y) := by
    funext x y
    unfold idC idKey
    split <;> split <;> rfl
  rw [this]; exact h
theorem TO.pres : TO presC := by
  have h := (TO.id.lex.sum TO.nat).comap (fun p : List UInt8 => if p = [] then Sum.inr 0 else Sum.inl (splitB 46 p)) (by
    intro x y e
    split at e <;> split at e
    · rename_i h1 h2; rw [h1, h2]
    · cases e
    · cases e
    · injection e with e; rw [← join_split 46 x, e, join_split])
  have : presC = fun x y => sumC (lexC idC) natC ((fun p : List UInt8 => if p = [] then Sum.inr 0 else Sum.inl (splitB 46 p)) x) ((fun p : List UInt8 => if p = [] then Sum.inr 0 else Sum.inl (splitB 46 p)) y) := by
    funext x y
    unfold presC
    have hm : ∀ l : List UInt8, l ≠ [] → min l.length 1 = 1 := fun l hl => by cases l with
      | nil => exact absurd rfl hl
      | cons a r => simp
    by_cases h1 : x = [] <;> by_cases h2 : y = []
    · simp [h1, h2, sumC]
    · simp [h1, h2, sumC, natC, hm y h2]
    · simp [h1, h2, sumC, natC, hm x h1]
    · simp [h1, h2, sumC]
  rw [this]; exact h
theorem TO.ver : TO verC := by
  have h := (TO.nat.prod (TO.nat.prod (TO.nat.prod TO.pres))).comap (fun v : Ver => (v.ma, v.mi, v.pa, v.pre)) (by
    rintro ⟨⟩ ⟨⟩ e; simp only [Prod.mk.injEq] at e; obtain ⟨rfl, rfl, rfl, rfl⟩ := e; rfl)
  exact h
theorem TO.cmp : TO cmpB := by
  have h := (TO.bytes.sum TO.ver).comap (fun s : List UInt8 => match readB s with
    | none => Sum.inl s
    | some v => Sum.inr v) (by
    intro x y e
    split at e <;> split at e
    · injection e
    · cases e
    · cases e
    · rename_i h1 _ _ h2; injection e with e; subst e; exact readB_inj h1 h2)
  have : cmpB = fun x y => sumC bytesC verC (match readB x with
    | none => Sum.inl x
    | some v => Sum.inr v) (match readB y with
    | none => Sum.inl y
    | some v => Sum.inr v) := by
    funext x y
    unfold cmpB
    cases readB x <;> cases readB y <;> rfl
  rw [this]; exact h
end Go.AI
namespace Go.AI
/-! Pseudo-versions. -/
def coreT (x y z : Nat) : List UInt8 := 118 :: (Lib.decDigits x ++ 46 :: (Lib.decDigits y ++ 46 :: Lib.decDigits z))
/-- two digits within -/
def inB (s : List UInt8) (i : Nat) (l m : List UInt8) : Bool := !(Op.bytesLess ((s.take (i + 2)).drop i) l) && (Op.bytesLess ((s.take (i + 2)).drop i) m || (s.take (i + 2)).drop i == m)
def stampB (s : List UInt8) : Bool := decide (s.length = 14) && (allB isD s && (inB s 4 [48, 49] [49, 50] && (inB s 6 [48, 49] [51, 49] && (inB s 8 [48, 48] [50, 51] && (inB s 10 [48, 48] [53, 57] && inB s 12 [48, 48] [53, 57])))))
def isX (c : UInt8) : Bool := isD c || decide (97 ≤ c.toNat ∧ c.toNat ≤ 102)
def revB (s : List UInt8) : Bool := decide (s.length = 12) && allB isX s
/-- the text of a pseudo-version -/
def pseudoT (major : Nat) (base tr : List UInt8) : List UInt8 := match readB base with
  | none => coreT major 0 0 ++ 45 :: tr
  | some x => if base = [] then coreT major 0 0 ++ 45 :: tr else if x.pre ≠ [] then base ++ [46, 48, 46] ++ tr else coreT x.ma x.mi (x.pa + 1) ++ [45, 48, 46] ++ tr
def pseudoB (major : Int) (base time rev : List UInt8) : List UInt8 × Nat :=
  if major < 0 ∨ 999999999 < major then ([], 6) else
  if stampB time = false ∨ revB rev = false then ([], 15) else
  if base ≠ [] ∧ (∀ x, readB base = some x → (x.ma : Int) ≠ major) then ([], 8) else
  let out := pseudoT major.toNat base (time ++ 45 :: rev)
  if (readB out).isSome then (out, 0) else ([], 8)
end Go.AI
namespace Go.AI
/-! Escapes. -/
def escC (c : UInt8) : List UInt8 := if isU c = true then [33, c + 32] else [c]
def escT (s : List UInt8) : List UInt8 := s.flatMap escC
def escQ (c : UInt8) : Bool := c == 33 || isH c
def escBad (s : List UInt8) : Bool := s.any escQ
def escR (s : List UInt8) : List UInt8 × Nat := if escBad s = true then ([], 15) else (escT s, 0)
end Go.AI
namespace Go.AI
/-- escapes are read -/
def unT : List UInt8 → Option (List UInt8)
  | [] => some []
  | [c] => if c = 33 then none else some [c]
  | c :: d :: r => if c = 33 then (if isL d = true then (unT r).map ((d - 32) :: ·) else none) else (unT (d :: r)).map (c :: ·)
def unQ (c : UInt8) : Bool := isU c || isH c
def unBad (s : List UInt8) : Bool := s.any unQ
def unR (s : List UInt8) : List UInt8 × Nat := if unBad s = true then ([], 15) else match unT s with
  | some t => (t, 0)
  | none => ([], 15)
/-! Paths. -/
def elemB (o s : List UInt8) : Bool := allB (wordB o) s && (!(decide (s.head? = some 46)) && !(decide (s.getLast? = some 46)))
def elemsB (o p : List UInt8) : Bool := (splitB 47 p).all (elemB o)
def majB : List UInt8 → Option Nat
  | [] => none
  | c :: r => if c ≠ 118 then none else match numB r with
    | none => none
    | some n => if n < 2 then none else some n
def splitMB (p : List UInt8) : List UInt8 × Nat := match lix 47 p with
  | none => (p, 0)
  | some i => match majB (p.drop (i + 1)) with
    | none => (p, 0)
    | some n => (p.take i, n)
def oddB (c : UInt8) : Bool := isU c || (c == 95 || c == 126)
def lastB (p : List UInt8) : List UInt8 := match lix 47 p with
  | some n => p.drop (n + 1)
  | none => p
def pathB (p : List UInt8) : Nat := if 100 < p.length then 13 else
  if elemsB [45, 46, 95, 126] p = false ∨ 46 ∉ (cutB 47 p).1 ∨ (cutB 47 p).1.any oddB = true ∨ (cutB 47 p).1.head? = some 45 then 9 else
  if (cutB 47 p).2.2 = true ∧ (lastB p).head? = some 118 ∧ allB isD (lastB p).tail = true ∧ (splitMB p).2 = 0 then 10 else 0
def importB (p : List UInt8) : Nat := if 100 < p.length then 13 else if elemsB [45, 46, 95, 126, 43] p = false then 9 else 0
def matchesB (v p : List UInt8) : Bool := match readB v with
  | none => false
  | some x => decide (x.ma = (splitMB p).2) || (decide ((splitMB p).2 = 0) && decide (x.ma = 1))
def checkB (p v : List UInt8) : Nat := if pathB p ≠ 0 then pathB p else if readB v = none then 8 else if matchesB v p = false then 10 else 0
theorem lastB_mem (p : List UInt8) : lastB p ∈ splitB 47 p := by
  have h := splitB_last 47 p
  have : lastB p = (splitB 47 p).getLast (splitB_ne 47 p) := by rw [h]; rfl
  rw [this]; exact List.getLast_mem _
end Go.AI
end
section
/- A note's text and its lines: plain. -/
namespace Go.AI

theorem lastIndex_spec (s sub : List UInt8) (h : 1 ≤ sub.length) : (Lib.lastIndex s sub = -1 ∧ ∀ j, Lib.occAt s sub j = false) ∨ ∃ i : Nat, Lib.lastIndex s sub = i ∧ Lib.occAt s sub i = true ∧ ∀ j, i < j → Lib.occAt s sub j = false := by
  have far : ∀ j, s.length - sub.length < j → Lib.occAt s sub j = false := by
    intro j hj
    cases hq : Lib.occAt s sub j with
    | false => rfl
    | true =>
      have := (List.isPrefixOf_iff_prefix.1 hq).length_le
      simp at this; omega
  have short : s.length < sub.length → ∀ j, Lib.occAt s sub j = false := by
    intro hlt j
    cases hq : Lib.occAt s sub j with
    | false => rfl
    | true =>
      have := (List.isPrefixOf_iff_prefix.1 hq).length_le
      simp at this; omega
  unfold Lib.lastIndex
  split
  · rename_i hl
    rcases Lib.lastOcc_spec s sub (s.length - sub.length + 1) with ⟨h1, h2⟩ | ⟨i, h0, h1, h2, h4⟩
    · refine .inl ⟨h1, fun j => ?_⟩
      by_cases hj : j < s.length - sub.length + 1
      · exact h2 j hj
      · exact far j (by omega)
    · refine .inr ⟨i, h1, h2, fun j hj => ?_⟩
      · by_cases hj2 : j < s.length - sub.length + 1
        · exact h4 j hj hj2
        · exact far j (by omega)
  · rename_i hl
    exact .inl ⟨rfl, short (by omega)⟩

/-- lines, each with its end -/
def unl (ls : List (List UInt8)) : List UInt8 := (ls.map (· ++ [10])).flatten
@[simp] theorem unl_nil : unl [] = [] := rfl
@[simp] theorem unl_cons (x : List UInt8) (r : List (List UInt8)) : unl (x :: r) = x ++ 10 :: unl r := by simp [unl]
section
variable {μ : Type} (P : List UInt8 → Option μ) (tp : List UInt8 → Bool)
def mapP : List (List UInt8) → Option (List μ)
  | [] => some []
  | x :: r => match P x, mapP r with
    | some a, some l => some (a :: l)
    | _, _ => none
def IsNote (s t : List UInt8) (ms : List μ) : Prop := ∃ ls, ls ≠ [] ∧ (∀ x ∈ ls, (10 : UInt8) ∉ x) ∧ s = t ++ 10 :: unl ls ∧ tp t = true ∧ mapP P ls = some ms
/-- a note's text and lines, as the program cuts them -/
def cutN (s : List UInt8) : Option (List UInt8 × List μ) :=
  if [10] <:+ s then (if Lib.lastIndex (s.take (s.length - 1)) [10, 10] < 0 then none else
    if tp ((s.take (s.length - 1)).take ((Lib.lastIndex (s.take (s.length - 1)) [10, 10]).toNat + 1)) then
      (match mapP P (splitB 10 ((s.take (s.length - 1)).drop ((Lib.lastIndex (s.take (s.length - 1)) [10, 10]).toNat + 2))) with
        | some ms => some ((s.take (s.length - 1)).take ((Lib.lastIndex (s.take (s.length - 1)) [10, 10]).toNat + 1), ms)
        | none => none) else none) else none
variable (hP : ∀ x m, P x = some m → x ≠ []) (htp : ∀ t, tp t = true → [10] <:+ t)
include hP htp
end
end Go.AI
end
section
/- Numbers and their digits: plain. -/
namespace Go.AI
theorem pu10 : ∀ (s : List UInt8) (acc : Nat), s.all isD = true → (acc + 1) * 10 ^ s.length ≤ 10 ^ 18 → Lib.parseUint10 acc s = .ok (s.foldl (fun n c => n * 10 + (c.toNat - 48)) acc)
  | [], acc, _, _ => rfl
  | c :: r, acc, h, hb => by
    rw [List.all_cons, Bool.and_eq_true] at h
    have hd : 48 ≤ c.toNat ∧ c.toNat ≤ 57 := of_decide_eq_true h.1
    have hp : 0 < 10 ^ r.length := Nat.pow_pos (by omega)
    have e : (acc + 1) * 10 ^ (c :: r).length = ((acc + 1) * 10) * 10 ^ r.length := by rw [List.length_cons, Nat.pow_succ, Nat.mul_assoc, Nat.mul_comm (10 ^ r.length) 10]
    rw [e] at hb
    have h1 : (acc + 1) * 10 ≤ 10 ^ 18 := Nat.le_trans (Nat.le_mul_of_pos_right _ hp) hb
    have h2 : (acc * 10 + (c.toNat - 48) + 1) * 10 ^ r.length ≤ 10 ^ 18 := Nat.le_trans (Nat.mul_le_mul_right _ (by omega)) hb
    rw [Lib.parseUint10, if_pos hd, if_neg (by omega), if_neg (by omega), pu10 r _ h.2 h2]
    rfl
theorem digs_atoi (s : List UInt8) (ha : s.all isD = true) (h0 : s ≠ []) (hl : s.length ≤ 17) : Lib.atoiAll s = .ok (valB s : Int) := by
  cases s with
  | nil => exact absurd rfl h0
  | cons c r =>
    have hv := valB_lt (c :: r) ha
    have hp17 : 10 ^ (c :: r).length ≤ 10 ^ 17 := Nat.pow_le_pow_right (by omega) hl
    have hp := pu10 (c :: r) 0 ha (by rw [Nat.zero_add, Nat.one_mul]; exact Nat.le_trans hp17 (by omega))
    have hd : isD c = true := by rw [List.all_cons, Bool.and_eq_true] at ha; exact ha.1
    have hd2 : 48 ≤ c.toNat ∧ c.toNat ≤ 57 := of_decide_eq_true hd
    rw [Lib.atoiAll_plain c r (by omega) (by omega)]
    unfold Lib.parseMag
    rw [if_neg (by simp), hp]
    have : (c :: r).foldl (fun n c => n * 10 + (c.toNat - 48)) 0 = valB (c :: r) := rfl
    rw [this]
    show (if 9223372036854775808 ≤ valB (c :: r) then Lib.NumEnd.range else Lib.NumEnd.ok ((valB (c :: r) : Nat) : Int)) = _
    rw [if_neg (by omega)]
end Go.AI
end
section
/- Base64: plain. -/
namespace Go.B64

def L64 : List UInt8 := [65, 66, 67, 68, 69, 70, 71, 72, 73, 74, 75, 76, 77, 78, 79, 80, 81, 82, 83, 84, 85, 86, 87, 88, 89, 90, 97, 98, 99, 100, 101, 102, 103, 104, 105, 106, 107, 108, 109, 110, 111, 112, 113, 114, 115, 116, 117, 118, 119, 120, 121, 122, 48, 49, 50, 51, 52, 53, 54, 55, 56, 57, 43, 47]
def lt (n : Nat) : UInt8 := L64.getD n 0
def b64 : List UInt8 → List UInt8
  | [] => []
  | [a] => [lt (a.toNat / 4), lt (a.toNat % 4 * 16), 61, 61]
  | [a, b] => [lt (a.toNat / 4), lt (a.toNat % 4 * 16 + b.toNat / 16), lt (b.toNat % 16 * 4), 61]
  | a :: b :: c :: r => [lt (a.toNat / 4), lt (a.toNat % 4 * 16 + b.toNat / 16), lt (b.toNat % 16 * 4 + c.toNat / 64), lt (c.toNat % 64)] ++ b64 r
theorem b64_len (l : List UInt8) : (b64 l).length = 4 * ((l.length + 2) / 3) := by
  induction l using b64.induct with
  | case1 => rfl
  | case2 a => simp [b64]
  | case3 a b => simp [b64]
  | case4 a b c r ih => simp only [b64, List.length_append, List.length_cons, List.length_nil, ih]; omega
/-- four letters of a number; a sign behind those that n bytes make -/
def grp (x n : Nat) : List UInt8 := [lt (x / 262144), if 1 > n then 61 else lt (x / 4096 % 64), if 2 > n then 61 else lt (x / 64 % 64), if 3 > n then 61 else lt (x % 64)]
/-- a letter's place -/
def plc (c : UInt8) : Int := if L64.contains c then ((L64.idxOf c : Nat) : Int) else -1
theorem plc_lt : ∀ n : Fin 64, plc (lt n.val) = (n.val : Int) := by decide
theorem lt_plc (n : Nat) (h : n < 64) : plc (lt n) = (n : Int) := plc_lt ⟨n, h⟩
/-! numbers -/
/-! reading -/
/-- one letter's value taken in -/
def st64 (a : List UInt8 × Nat × Nat) (v : Nat) : List UInt8 × Nat × Nat :=
  if 8 ≤ a.2.2 + 6 then (a.1 ++ [UInt8.ofNat ((a.2.1 * 64 % 65536 + v) / 2 ^ (a.2.2 + 6 - 8) % 256)], a.2.1 * 64 % 65536 + v, a.2.2 + 6 - 8) else (a.1, a.2.1 * 64 % 65536 + v, a.2.2 + 6)
/-- the values of the letters, without the signs -/
def vals : List UInt8 → List Nat
  | [] => []
  | [a] => [a.toNat / 4, a.toNat % 4 * 16]
  | [a, b] => [a.toNat / 4, a.toNat % 4 * 16 + b.toNat / 16, b.toNat % 16 * 4]
  | a :: b :: c :: r => [a.toNat / 4, a.toNat % 4 * 16 + b.toNat / 16, b.toNat % 16 * 4 + c.toNat / 64, c.toNat % 64] ++ vals r
/-- the signs at the end -/
def pad64 (l : List UInt8) : List UInt8 := if l.length % 3 = 1 then [61, 61] else if l.length % 3 = 2 then [61] else []
open Classical in
/-- what a text in letters stands for -/
noncomputable def from64 (s : List UInt8) : Option (List UInt8) := if h : ∃ b, b64 b = s then some (Classical.choose h) else none
/-! the document's reading -/
def pl0 (c : UInt8) : Nat := (max (plc c) 0).toNat
def num4 (a b c d : UInt8) : Nat := ((pl0 a * 64 + pl0 b) * 64 + pl0 c) * 64 + pl0 d
def by3 (n : Nat) : List UInt8 := [UInt8.ofNat (n / 65536 % 256), UInt8.ofNat (n / 256 % 256), UInt8.ofNat (n % 256)]
def dec3 : List UInt8 → List UInt8
  | a :: b :: c :: d :: r => by3 (num4 a b c d) ++ dec3 r
  | _ => []
end Go.B64
end
section
/- Sums of 32 bytes, texts read line by line: plain. -/
namespace Go.AI
open Go Go.B64

/-! what is a sum -/
def sumB (s : List UInt8) : Bool := decide (s.length = 47) && (s.take 3 == [104, 49, 58]) && (s.drop 46 == [61]) && ((s.drop 3).take 43).all (fun c => decide (0 ≤ plc c)) && decide (plc (s.getD 45 0) % 4 = 0)

theorem plc_get {c : UInt8} (h : 0 ≤ plc c) : ∃ n : Nat, n < 64 ∧ plc c = (n : Int) ∧ lt n = c := by
  unfold plc at h ⊢
  split at h
  · rename_i hc
    rw [if_pos hc]
    have hm : c ∈ L64 := by simpa using hc
    have hi : L64.idxOf c < L64.length := List.idxOf_lt_length_of_mem hm
    refine ⟨_, hi, rfl, ?_⟩
    unfold lt
    rw [List.getD_eq_getElem?_getD, List.getElem?_eq_getElem hi]
    simp
  · omega
theorem plc_lt64 (n : Nat) (h : n < 64) : 0 ≤ plc (lt n) := by rw [lt_plc n h]; omega

/-- letters four by four are made of bytes three by three -/
theorem b64_groups : ∀ (n : Nat) (x : List UInt8), x.length = 4 * n → (∀ c ∈ x, 0 ≤ plc c) → ∃ b : List UInt8, b.length = 3 * n ∧ ∀ r, b64 (b ++ r) = x ++ b64 r := by
  intro n
  induction n with
  | zero => intro x hx _; exact ⟨[], rfl, fun r => by rw [List.eq_nil_of_length_eq_zero hx]; rfl⟩
  | succ n ih =>
    intro x hx hl
    match x, hx, hl with
    | p :: q :: u :: v :: y, hx, hl =>
      obtain ⟨b, hb, hr⟩ := ih y (by simp at hx; omega) (fun c hc => hl c (by simp [hc]))
      obtain ⟨p', hp, _, rfl⟩ := plc_get (hl p (by simp))
      obtain ⟨q', hq, _, rfl⟩ := plc_get (hl q (by simp))
      obtain ⟨u', hu, _, rfl⟩ := plc_get (hl u (by simp))
      obtain ⟨v', hv, _, rfl⟩ := plc_get (hl v (by simp))
      obtain ⟨A, hA, eA⟩ : ∃ a : UInt8, a.toNat = p' * 4 + q' / 16 ∧ True := ⟨UInt8.ofNat (p' * 4 + q' / 16), by rw [UInt8.toNat_ofNat']; omega, trivial⟩
      obtain ⟨B, hB, eB⟩ : ∃ a : UInt8, a.toNat = q' % 16 * 16 + u' / 4 ∧ True := ⟨UInt8.ofNat (q' % 16 * 16 + u' / 4), by rw [UInt8.toNat_ofNat']; omega, trivial⟩
      obtain ⟨C, hC, eC⟩ : ∃ a : UInt8, a.toNat = u' % 4 * 64 + v' ∧ True := ⟨UInt8.ofNat (u' % 4 * 64 + v'), by rw [UInt8.toNat_ofNat']; omega, trivial⟩
      refine ⟨A :: B :: C :: b, by simp [hb]; omega, fun r => ?_⟩
      have e1 : A.toNat / 4 = p' := by omega
      have e2 : A.toNat % 4 * 16 + B.toNat / 16 = q' := by omega
      have e3 : B.toNat % 16 * 4 + C.toNat / 64 = u' := by omega
      have e4 : C.toNat % 64 = v' := by omega
      show b64 (A :: B :: C :: (b ++ r)) = _
      rw [b64, e1, e2, e3, e4, hr]
      rfl
theorem b64_letters : ∀ (n : Nat) (b : List UInt8), b.length = 3 * n → ∃ x : List UInt8, x.length = 4 * n ∧ (∀ c ∈ x, 0 ≤ plc c) ∧ ∀ r, b64 (b ++ r) = x ++ b64 r := by
  intro n
  induction n with
  | zero => intro b hb; exact ⟨[], rfl, by simp, fun r => by rw [List.eq_nil_of_length_eq_zero hb]; rfl⟩
  | succ n ih =>
    intro b hb
    match b, hb with
    | A :: B :: C :: b, hb =>
      obtain ⟨x, hx, hl, hr⟩ := ih b (by simp at hb; omega)
      have hA := A.toNat_lt; have hB := B.toNat_lt; have hC := C.toNat_lt
      refine ⟨lt (A.toNat / 4) :: lt (A.toNat % 4 * 16 + B.toNat / 16) :: lt (B.toNat % 16 * 4 + C.toNat / 64) :: lt (C.toNat % 64) :: x, by simp [hx]; omega, ?_, fun r => ?_⟩
      · intro c hc
        simp only [List.mem_cons] at hc
        rcases hc with rfl | rfl | rfl | rfl | hc
        · exact plc_lt64 _ (by omega)
        · exact plc_lt64 _ (by omega)
        · exact plc_lt64 _ (by omega)
        · exact plc_lt64 _ (by omega)
        · exact hl c hc
      · show b64 (A :: B :: C :: (b ++ r)) = _
        rw [b64, hr]
        rfl
/-- a sum's text is the letters of 32 bytes -/
theorem sumB_iff (s : List UInt8) : sumB s = true ↔ ∃ b : List UInt8, b.length = 32 ∧ s = [104, 49, 58] ++ b64 b := by
  unfold sumB
  simp only [Bool.and_eq_true, decide_eq_true_eq, beq_iff_eq, List.all_eq_true]
  constructor
  · rintro ⟨⟨⟨⟨h1, h2⟩, h3⟩, h4⟩, h5⟩
    obtain ⟨t, ht⟩ : ∃ t, (s.drop 3).take 43 = t := ⟨_, rfl⟩
    have hs : s = [104, 49, 58] ++ (t ++ [61]) := by
      rw [← h2, ← ht, ← h3]
      conv => lhs; rw [← List.take_append_drop 3 s, ← List.take_append_drop 43 (s.drop 3), List.drop_drop]
    rw [ht] at h4
    have htl : t.length = 43 := by rw [← ht]; simp; omega
    have hd : t.drop 40 = [t.getD 40 0, t.getD 41 0, t.getD 42 0] := by
      have : (t.drop 40).length = 3 := by simp; omega
      match hq : t.drop 40, this with
      | [a, b, c], _ =>
        have e1 : t[40]? = some a := by have := congrArg (·[0]?) hq; simpa using this
        have e2 : t[41]? = some b := by have := congrArg (·[1]?) hq; simpa using this
        have e3 : t[42]? = some c := by have := congrArg (·[2]?) hq; simpa using this
        simp [List.getD, e1, e2, e3]
    have hs45 : s.getD 45 0 = t.getD 42 0 := by
      rw [hs]
      simp [List.getD, htl]
    rw [hs45] at h5
    obtain ⟨b, hb, hr⟩ := b64_groups 10 (t.take 40) (by simp; omega) (fun c hc => by simpa using h4 c (List.mem_of_mem_take hc))
    have hmem : ∀ j, j < 43 → t.getD j 0 ∈ t := fun j hj => by
      rw [List.getD_eq_getElem?_getD, List.getElem?_eq_getElem (by omega)]; simp
    obtain ⟨p', hp, ep, lp⟩ := plc_get (by simpa using h4 _ (hmem 40 (by omega)) : 0 ≤ plc (t.getD 40 0))
    obtain ⟨q', hq, eq, lq⟩ := plc_get (by simpa using h4 _ (hmem 41 (by omega)) : 0 ≤ plc (t.getD 41 0))
    obtain ⟨u', hu, eu, lu⟩ := plc_get (by simpa using h4 _ (hmem 42 (by omega)) : 0 ≤ plc (t.getD 42 0))
    rw [eu] at h5
    obtain ⟨A, hA⟩ : ∃ a : UInt8, a.toNat = p' * 4 + q' / 16 := ⟨UInt8.ofNat (p' * 4 + q' / 16), by rw [UInt8.toNat_ofNat']; omega⟩
    obtain ⟨B, hB⟩ : ∃ a : UInt8, a.toNat = q' % 16 * 16 + u' / 4 := ⟨UInt8.ofNat (q' % 16 * 16 + u' / 4), by rw [UInt8.toNat_ofNat']; omega⟩
    refine ⟨b ++ [A, B], by simp [hb], ?_⟩
    rw [hr, b64]
    have e1 : A.toNat / 4 = p' := by omega
    have e2 : A.toNat % 4 * 16 + B.toNat / 16 = q' := by omega
    have e3 : B.toNat % 16 * 4 = u' := by omega
    rw [e1, e2, e3, lp, lq, lu, hs]
    conv => lhs; rw [← List.take_append_drop 40 t, hd]
    simp
  · rintro ⟨b, hb, rfl⟩
    obtain ⟨x, hx, hl, hr⟩ := b64_letters 10 (b.take 30) (by simp; omega)
    have hd : ∃ A B, b.drop 30 = [A, B] := by
      have : (b.drop 30).length = 2 := by simp; omega
      match hq : b.drop 30, this with
      | [A, B], _ => exact ⟨A, B, rfl⟩
    obtain ⟨A, B, hd⟩ := hd
    have hA := A.toNat_lt; have hB := B.toNat_lt
    have hb64 : b64 b = x ++ [lt (A.toNat / 4), lt (A.toNat % 4 * 16 + B.toNat / 16), lt (B.toNat % 16 * 4), 61] := by
      conv => lhs; rw [← List.take_append_drop 30 b, hd, hr]
      rfl
    rw [hb64]
    have hlen : (x ++ [lt (A.toNat / 4), lt (A.toNat % 4 * 16 + B.toNat / 16), lt (B.toNat % 16 * 4), 61]).length = 44 := by simp [hx]
    refine ⟨⟨⟨⟨by simp [hx], by simp⟩, by simp [List.drop_append, hx]⟩, fun c hc => ?_⟩, ?_⟩
    · have : ((([104, 49, 58] : List UInt8) ++ (x ++ [lt (A.toNat / 4), lt (A.toNat % 4 * 16 + B.toNat / 16), lt (B.toNat % 16 * 4), 61])).drop 3).take 43 = x ++ [lt (A.toNat / 4), lt (A.toNat % 4 * 16 + B.toNat / 16), lt (B.toNat % 16 * 4)] := by
        simp [List.take_append, hx]
        rw [List.take_of_length_le (by omega)]
      rw [this] at hc
      simp only [List.mem_append, List.mem_cons, List.not_mem_nil, or_false] at hc
      rcases hc with hc | rfl | rfl | rfl
      · simpa using hl c hc
      · simpa using plc_lt64 _ (by omega)
      · simpa using plc_lt64 _ (by omega)
      · simpa using plc_lt64 _ (by omega)
    · have : (([104, 49, 58] : List UInt8) ++ (x ++ [lt (A.toNat / 4), lt (A.toNat % 4 * 16 + B.toNat / 16), lt (B.toNat % 16 * 4), 61])).getD 45 0 = lt (B.toNat % 16 * 4) := by
        simp [List.getD, hx]
      rw [this, lt_plc _ (by omega)]
      omega

/-! a text read line by line -/
/-- line by line: what is read so far, or the line at fault with its error -/
def linesP {S : Type} (read : S → List UInt8 → S × Int) : S → Nat → List (List UInt8) → S ⊕ (Nat × Int)
  | l, _, [] => .inl l
  | l, n, [x] => if x = [] then .inl l else if (read l x).2 ≠ 0 then .inr (n + 1, (read l x).2) else .inr (n + 1, 11)
  | l, n, x :: y :: r => if (read l x).2 ≠ 0 then .inr (n + 1, (read l x).2) else linesP read (read l x).1 (n + 1) (y :: r)
theorem linesP_bad {S : Type} {read : S → List UInt8 → S × Int} {l : S} {n : Nat} {x : List UInt8} {r : List (List UInt8)} (hx : x ≠ [] ∨ r ≠ []) (h : (read l x).2 ≠ 0) : linesP read l n (x :: r) = .inr (n + 1, (read l x).2) := by
  cases r with
  | nil => rw [linesP, if_neg (hx.resolve_right (by simp)), if_pos h]
  | cons y r => rw [linesP, if_pos h]
theorem linesP_end {S : Type} {read : S → List UInt8 → S × Int} {l : S} {n : Nat} {x : List UInt8} (hx : x ≠ []) (h : (read l x).2 = 0) : linesP read l n [x] = .inr (n + 1, 11) := by
  rw [linesP, if_neg hx, if_neg (by omega)]
theorem linesP_next {S : Type} {read : S → List UInt8 → S × Int} {l : S} {n : Nat} {x : List UInt8} {r : List (List UInt8)} (hr : r ≠ []) (h : (read l x).2 = 0) : linesP read l n (x :: r) = linesP read (read l x).1 (n + 1) r := by
  cases r with
  | nil => exact absurd rfl hr
  | cons y r => rw [linesP, if_neg (by omega)]
theorem linesP_nil {S : Type} {read : S → List UInt8 → S × Int} {l : S} {n : Nat} : linesP read l n [[]] = .inl l := rfl
end Go.AI
end
section
/- Patterns of a path: what matches; the greedy search; the table. Plain. -/
namespace Go.AI
open Go

/-- a byte of a pattern stands for such a text -/
def okG (c : UInt8) (x : List UInt8) : Prop := if c = 42 then (47 : UInt8) ∉ x else ∃ d, x = [d] ∧ (c = d ∨ c = 63 ∧ d ≠ 47)
def one (c d : UInt8) : Prop := c = d ∨ c = 63 ∧ d ≠ 47
/-- the text is what the pattern says -/
def MG : List UInt8 → List UInt8 → Prop
  | [], s => s = []
  | c :: p, s => ∃ x t, s = x ++ t ∧ okG c x ∧ MG p t

theorem MG_one {c : UInt8} (hc : c ≠ 42) {p s : List UInt8} : MG (c :: p) s ↔ ∃ d t, s = d :: t ∧ one c d ∧ MG p t := by
  constructor
  · rintro ⟨x, t, rfl, hx, ht⟩
    unfold okG at hx
    rw [if_neg hc] at hx
    obtain ⟨d, rfl, hd⟩ := hx
    exact ⟨d, t, rfl, hd, ht⟩
  · rintro ⟨d, t, rfl, hd, ht⟩
    refine ⟨[d], t, rfl, ?_, ht⟩
    unfold okG
    rw [if_neg hc]
    exact ⟨d, rfl, hd⟩
theorem MG_star {p s : List UInt8} : MG (42 :: p) s ↔ ∃ x t, s = x ++ t ∧ (47 : UInt8) ∉ x ∧ MG p t := by
  show (∃ x t, s = x ++ t ∧ okG 42 x ∧ MG p t) ↔ _
  simp [okG]
/-- stars alone -/
theorem MG_empty : ∀ {p : List UInt8}, MG p [] ↔ ∀ c ∈ p, c = 42 := by
  intro p
  induction p with
  | nil => simp [MG]
  | cons a p ih =>
    by_cases ha : a = 42
    · subst ha
      rw [MG_star]
      constructor
      · rintro ⟨x, t, h, _, ht⟩
        have : t = [] := by have := congrArg List.length h; simp at this; exact List.eq_nil_of_length_eq_zero (by omega)
        subst this
        intro c hc
        rcases List.mem_cons.1 hc with rfl | hc
        · rfl
        · exact ih.1 ht c hc
      · intro h
        exact ⟨[], [], rfl, by simp, ih.2 fun c hc => h c (List.mem_cons_of_mem _ hc)⟩
    · rw [MG_one ha]
      constructor
      · rintro ⟨d, t, h, _⟩; cases h
      · intro h; exact absurd (h a (List.mem_cons_self ..)) ha
/-! the greedy search -/
def RG (P S : List UInt8) (p i : Nat) : Prop := MG (P.drop p) (S.drop i)
def segG (P S : List UInt8) (q f L : Nat) : Prop := ∀ j, j < L → ∃ c d, P[q + j]? = some c ∧ S[f + j]? = some d ∧ c ≠ 42 ∧ one c d
/-- a later end of what the star stands for -/
def EG (P S : List UInt8) (k from_ : Nat) : Prop := ∃ f, from_ < f ∧ f ≤ S.length ∧ (∀ t, from_ ≤ t → t < f → S[t]? ≠ some 47) ∧ RG P S (k + 1) f
theorem dropG_cons {α : Type} {l : List α} {i : Nat} {x : α} (h : l[i]? = some x) : l.drop i = x :: l.drop (i + 1) := by
  obtain ⟨hi, he⟩ := List.getElem?_eq_some_iff.1 h
  rw [List.drop_eq_getElem_cons hi, he]
theorem RG_one {P S : List UInt8} {p i : Nat} {c : UInt8} (hc : P[p]? = some c) (h42 : c ≠ 42) : RG P S p i ↔ ∃ d, S[i]? = some d ∧ one c d ∧ RG P S (p + 1) (i + 1) := by
  unfold RG
  rw [dropG_cons hc, MG_one h42]
  constructor
  · rintro ⟨d, t, h, h1, h2⟩
    have hd : S[i]? = some d := by have := congrArg (·[0]?) h; simpa using this
    rw [dropG_cons hd] at h
    injection h with _ h
    exact ⟨d, hd, h1, by rw [h]; exact h2⟩
  · rintro ⟨d, hd, h1, h2⟩
    exact ⟨d, _, dropG_cons hd, h1, h2⟩
theorem segG_run {P S : List UInt8} {q f : Nat} : ∀ {L : Nat}, (∀ j, j < L → ∃ c, P[q + j]? = some c ∧ c ≠ 42) → RG P S q f → segG P S q f L ∧ RG P S (q + L) (f + L) := by
  intro L
  induction L with
  | zero => intro _ h; exact ⟨fun j hj => by omega, h⟩
  | succ L ih =>
    intro hP h
    obtain ⟨h1, h2⟩ := ih (fun j hj => hP j (by omega)) h
    obtain ⟨c, hc, h42⟩ := hP L (by omega)
    obtain ⟨d, hd, ho, hr⟩ := (RG_one hc h42).1 h2
    refine ⟨fun j hj => ?_, hr⟩
    by_cases hjL : j = L
    · subst hjL; exact ⟨c, d, hc, hd, h42, ho⟩
    · exact h1 j (by omega)
theorem no_slash {P S : List UInt8} {q from_ f L : Nat} (hd : from_ < f) (h1 : segG P S q from_ L) (h2 : segG P S q f L) (hn : ∀ t, from_ ≤ t → t < f → S[t]? ≠ some 47) : ∀ t, from_ ≤ t → t < f + L → S[t]? ≠ some 47 := by
  intro t
  induction t using Nat.strongRecOn with
  | _ t ih =>
    intro ht1 ht2 he
    by_cases h : t < f
    · exact hn t ht1 h he
    · obtain ⟨j, rfl⟩ : ∃ j, t = f + j := ⟨t - f, by omega⟩
      obtain ⟨c, d, hc, hd2, h42, ho⟩ := h2 j (by omega)
      obtain ⟨c', d', hc', hd2', _, ho'⟩ := h1 j (by omega)
      rw [he] at hd2
      injection hd2 with hd2; subst hd2
      rw [hc] at hc'; injection hc' with hc'; subst hc'
      have hc47 : c = 47 := ho.resolve_right fun h => h.2 rfl
      subst hc47
      have hd47 : d' = 47 := by
        rcases ho' with h | h
        · exact h.symm
        · exact absurd h.1 (by decide)
      subst hd47
      exact ih (from_ + j) (by omega) (by omega) (by omega) hd2'
theorem RG_star {P S : List UInt8} {p i : Nat} (hp : P[p]? = some 42) (hi : i ≤ S.length) : RG P S p i ↔ RG P S (p + 1) i ∨ EG P S p i := by
  unfold EG
  constructor
  · intro h
    unfold RG at h
    rw [dropG_cons hp, MG_star] at h
    obtain ⟨x, t, h1, hx, ht⟩ := h
    have hl : S.length = i + x.length + t.length := by have := congrArg List.length h1; simp at this; omega
    have ht' : t = S.drop (i + x.length) := by rw [← List.drop_drop, h1]; simp
    by_cases hx0 : x = []
    · subst hx0; left; unfold RG; rw [h1]; simpa using ht
    · right
      refine ⟨i + x.length, by have := List.length_pos_iff.2 hx0; omega, by omega, fun t1 h2 h3 he => ?_, by unfold RG; rw [← ht']; exact ht⟩
      apply hx
      have : x[t1 - i]? = some 47 := by
        have h4 : (S.drop i)[t1 - i]? = some 47 := by rw [List.getElem?_drop, show i + (t1 - i) = t1 by omega]; exact he
        rw [h1, List.getElem?_append_left (by omega)] at h4
        exact h4
      exact List.mem_of_getElem? this
  · rintro (h | ⟨f, h1, h2, h3, h4⟩)
    · unfold RG
      rw [dropG_cons hp, MG_star]
      exact ⟨[], _, rfl, by simp, h⟩
    · unfold RG
      rw [dropG_cons hp, MG_star]
      refine ⟨(S.drop i).take (f - i), S.drop f, ?_, fun hm => ?_, h4⟩
      · conv => lhs; rw [← List.take_append_drop (f - i) (S.drop i), List.drop_drop, show i + (f - i) = f by omega]
      · obtain ⟨t, ht⟩ := List.mem_iff_getElem?.1 hm
        rw [List.getElem?_take] at ht
        split at ht
        · rw [List.getElem?_drop] at ht
          exact h3 (i + t) (by omega) (by omega) ht
        · cases ht
/-- a new star: the old one need not be looked at any more -/
theorem greedy_star {P S : List UInt8} {k p from_ i : Nat} (hpk : p = k + 1 + (i - from_)) (hf : from_ ≤ i) (hi : i ≤ S.length) (hs : segG P S (k + 1) from_ (i - from_)) (hp : P[p]? = some 42) (he : EG P S k from_) : RG P S p i := by
  obtain ⟨f, h1, h2, h3, h4⟩ := he
  obtain ⟨g1, g2⟩ := segG_run (L := i - from_) (fun j hj => by obtain ⟨c, d, hc, _, h42, _⟩ := hs j hj; exact ⟨c, hc, h42⟩) h4
  have hns := no_slash h1 hs g1 h3
  rw [← hpk] at g2
  have hfl : f + (i - from_) ≤ S.length := by
    rcases Nat.eq_zero_or_pos (i - from_) with h0 | h0
    · omega
    · obtain ⟨c, d, _, hd, _⟩ := g1 (i - from_ - 1) (by omega)
      have := (List.getElem?_eq_some_iff.1 hd).1
      omega
  have : RG P S p (f + (i - from_)) := g2
  unfold RG at this ⊢
  rw [dropG_cons hp, MG_star] at this ⊢
  obtain ⟨x, t, e1, e2, e3⟩ := this
  refine ⟨(S.drop i).take (f + (i - from_) - i) ++ x, t, ?_, fun hm => ?_, e3⟩
  · rw [List.append_assoc, ← e1]
    conv => lhs; rw [← List.take_append_drop (f + (i - from_) - i) (S.drop i), List.drop_drop, show i + (f + (i - from_) - i) = f + (i - from_) by omega]
  · rcases List.mem_append.1 hm with hm | hm
    · obtain ⟨t, ht⟩ := List.mem_iff_getElem?.1 hm
      rw [List.getElem?_take] at ht
      split at ht
      · rw [List.getElem?_drop] at ht
        exact hns (i + t) (by omega) (by omega) ht
      · cases ht
    · exact e2 hm
/-- at the end no later end of the star helps -/
theorem greedy_end {P S : List UInt8} {k from_ : Nat} (hf : from_ ≤ S.length) (hs : segG P S (k + 1) from_ (S.length - from_)) (he : EG P S k from_) : False := by
  obtain ⟨f, h1, h2, h3, h4⟩ := he
  obtain ⟨g1, g2⟩ := segG_run (L := S.length - from_) (fun j hj => by obtain ⟨c, d, hc, _, h42, _⟩ := hs j hj; exact ⟨c, hc, h42⟩) h4
  obtain ⟨c, d, _, hd, _⟩ := g1 (S.length - from_ - 1) (by omega)
  have := (List.getElem?_eq_some_iff.1 hd).1
  omega
/-- the star takes one more -/
theorem greedy_next {P S : List UInt8} {k from_ : Nat} {c : UInt8} (hc : S[from_]? = some c) (h47 : c ≠ 47) : EG P S k from_ ↔ RG P S (k + 1) (from_ + 1) ∨ EG P S k (from_ + 1) := by
  have hl := (List.getElem?_eq_some_iff.1 hc).1
  constructor
  · rintro ⟨f, h1, h2, h3, h4⟩
    by_cases hf : f = from_ + 1
    · subst hf; exact .inl h4
    · exact .inr ⟨f, by omega, h2, fun t ht => h3 t (by omega), h4⟩
  · rintro (h | ⟨f, h1, h2, h3, h4⟩)
    · exact ⟨from_ + 1, by omega, by omega, fun t ht1 ht2 => by rw [show t = from_ by omega, hc]; intro e; injection e with e; exact h47 e, h⟩
    · exact ⟨f, by omega, h2, fun t ht1 ht2 => by
        by_cases ht : t = from_
        · subst ht; rw [hc]; intro e; injection e with e; exact h47 e
        · exact h3 t (by omega) ht2, h4⟩
theorem greedy_stop {P S : List UInt8} {k from_ : Nat} (hc : S[from_]? = some 47) : ¬ EG P S k from_ := by
  rintro ⟨f, h1, h2, h3, h4⟩
  exact h3 from_ (Nat.le_refl _) h1 hc
theorem RG_no {P S : List UInt8} {p i : Nat} {c d : UInt8} (hc : P[p]? = some c) (h42 : c ≠ 42) (hd : S[i]? = some d) (ho : ¬ one c d) : ¬ RG P S p i := by
  rw [RG_one hc h42]
  rintro ⟨d', hd', ho', _⟩
  rw [hd] at hd'; injection hd' with hd'; subst hd'
  exact ho ho'
theorem RG_past {P S : List UInt8} {p i : Nat} (hp : P.length ≤ p) (hi : i < S.length) : ¬ RG P S p i := by
  unfold RG
  rw [List.drop_eq_nil_of_le hp]
  intro h
  have := congrArg List.length (show S.drop i = [] from h)
  simp at this; omega
theorem RG_end {P S : List UInt8} {p : Nat} : RG P S p S.length ↔ ∀ c ∈ P.drop p, c = 42 := by
  unfold RG
  rw [List.drop_length]
  exact MG_empty
end Go.AI
end
section
/- Paths: plain. -/
namespace Go.AI
end Go.AI
end
section
/- Sorting: plain. -/
namespace Go.AI
section
variable {α : Type} {c : α → α → Int}
def Srt (c : α → α → Int) (l : List α) : Prop := l.Pairwise fun a b => c a b ≤ 0
def ins1 (c : α → α → Int) (a : α) : List α → List α
  | [] => [a]
  | b :: r => if c a b ≤ 0 then a :: b :: r else b :: ins1 c a r
/-- the sorted list -/
def isrt (c : α → α → Int) : List α → List α
  | [] => []
  | a :: r => ins1 c a (isrt c r)
theorem ins1_perm (a : α) (l : List α) : (ins1 c a l).Perm (a :: l) := by
  induction l with
  | nil => exact .refl _
  | cons b r ih =>
    simp only [ins1]
    split
    · exact .refl _
    · exact (List.Perm.cons b ih).trans (.swap a b r)
theorem isrt_perm (l : List α) : (isrt c l).Perm l := by
  induction l with
  | nil => exact .refl _
  | cons a r ih => exact (ins1_perm a _).trans (.cons a ih)
theorem isrt_len (l : List α) : (isrt c l).length = l.length := (isrt_perm l).length_eq
theorem isrt_mem {l : List α} {a : α} : a ∈ isrt c l ↔ a ∈ l := (isrt_perm l).mem_iff
/-- two places of a list -/
theorem two {A B C : List α} {a d : α} {i j : Nat} (hi : i = A.length) (hj : j = A.length + (B.length + 1)) :
    (A ++ a :: (B ++ d :: C))[i]? = some a ∧ (A ++ a :: (B ++ d :: C))[j]? = some d ∧ ((A ++ a :: (B ++ d :: C)).set i d).set j a = A ++ d :: (B ++ a :: C) := by
  subst hi; subst hj
  refine ⟨by simp, ?_, ?_⟩
  · rw [List.getElem?_append_right (by omega)]; simp
  · simp [List.set_append_right]
end
end Go.AI
end
section
/- Stable sorting: plain. -/
namespace Go.AI
section
variable {α : Type} {c : α → α → Int}
/-- an order of all things, some of which may stand beside each other -/
structure TP (c : α → α → Int) : Prop where
  flip : ∀ a b, c b a = - c a b
  trans : ∀ a b d, c a b ≤ 0 → c b d ≤ 0 → c a d ≤ 0
theorem TO.tp (h : TO c) : TP c := ⟨h.flip, h.trans⟩
namespace TP
theorem refl (h : TP c) (a : α) : c a a = 0 := by have := h.flip a a; omega
theorem lt_le (h : TP c) {a b e : α} (h1 : c a b < 0) (h2 : c b e ≤ 0) : c a e < 0 := by
  rcases Int.lt_or_le (c a e) 0 with q | q
  · exact q
  · have h3 := h.flip a e
    have := h.trans b e a h2 (by omega)
    have := h.flip a b; omega
theorem le_lt (h : TP c) {a b e : α} (h1 : c a b ≤ 0) (h2 : c b e < 0) : c a e < 0 := by
  rcases Int.lt_or_le (c a e) 0 with q | q
  · exact q
  · have h3 := h.flip a e
    have := h.trans e a b (by omega) h1
    have := h.flip b e; omega
theorem nlt (h : TP c) {a b : α} : ¬ c b a < 0 ↔ c a b ≤ 0 := by have := h.flip a b; omega
theorem comap {β : Type} (h : TP c) (f : β → α) : TP fun x y => c (f x) (f y) := ⟨fun _ _ => h.flip _ _, fun _ _ _ => h.trans _ _ _⟩
end TP
/-- two rows merged, the left one's first -/
def mrg (c : α → α → Int) : List α → List α → List α
  | [], R => R
  | a :: L, [] => a :: L
  | a :: L, b :: R => if c b a < 0 then b :: mrg c (a :: L) R else a :: mrg c L (b :: R)
termination_by L R => L.length + R.length
@[simp] theorem mrg_nil (R : List α) : mrg c [] R = R := by rw [mrg]
@[simp] theorem mrg_nil' (L : List α) : mrg c L [] = L := by cases L <;> rw [mrg]
theorem mrg_cons (a b : α) (L R : List α) : mrg c (a :: L) (b :: R) = if c b a < 0 then b :: mrg c (a :: L) R else a :: mrg c L (b :: R) := by rw [mrg]
theorem mrg_perm (L R : List α) : (mrg c L R).Perm (L ++ R) := by
  fun_induction mrg c L R with
  | case1 R => exact .refl _
  | case2 a L => simp
  | case3 a L b R h ih => exact (List.Perm.cons b ih).trans List.perm_middle.symm
  | case4 a L b R h ih => exact .cons a ih
theorem mrg_split {L1 L2 R1 R2 : List α} (h1 : ∀ a ∈ L1, ∀ b ∈ R2, ¬ c b a < 0) (h2 : ∀ b ∈ R1, ∀ a ∈ L2, c b a < 0) : mrg c (L1 ++ L2) (R1 ++ R2) = mrg c L1 R1 ++ mrg c L2 R2 := by
  fun_induction mrg c L1 R1 with
  | case1 R =>
    induction R with
    | nil => rfl
    | cons b R ih =>
      cases L2 with
      | nil => simp
      | cons a L2 =>
        have := h2 b (by simp) a (by simp)
        simp only [List.nil_append, List.cons_append] at *
        rw [mrg_cons, if_pos this, ih (fun x hx => h2 x (by simp [hx]))]
  | case2 a L =>
    generalize hA : a :: L = A at *
    clear hA
    induction A with
    | nil => rfl
    | cons a A ih =>
      cases R2 with
      | nil => simp
      | cons b R2 =>
        have := h1 a (by simp) b (by simp)
        simp only [List.nil_append, List.cons_append] at *
        rw [mrg_cons, if_neg this, ih (fun x hx => h1 x (by simp [hx]))]
  | case3 a L b R h ih =>
    simp only [List.cons_append] at *
    rw [mrg_cons, if_pos h, ih h1 (fun x hx => h2 x (by simp [hx]))]
  | case4 a L b R h ih =>
    simp only [List.cons_append] at *
    rw [mrg_cons, if_neg h, ih (fun x hx => h1 x (by simp [hx])) h2]
theorem mrg_srt (h : TP c) {L R : List α} (hL : Srt c L) (hR : Srt c R) : Srt c (mrg c L R) := by
  fun_induction mrg c L R with
  | case1 R => exact hR
  | case2 a L => exact hL
  | case3 a L b R hc ih =>
    have k := List.pairwise_cons.1 hR
    refine List.pairwise_cons.2 ⟨fun x hx => ?_, ih hL k.2⟩
    rcases List.mem_append.1 ((mrg_perm _ _).mem_iff.1 hx) with hx | hx
    · rcases List.mem_cons.1 hx with rfl | hx
      · omega
      · exact h.trans _ _ _ (by omega) ((List.pairwise_cons.1 hL).1 x hx)
    · exact k.1 x hx
  | case4 a L b R hc ih =>
    have k := List.pairwise_cons.1 hL
    refine List.pairwise_cons.2 ⟨fun x hx => ?_, ih k.2 hR⟩
    have hab := h.nlt.1 hc
    rcases List.mem_append.1 ((mrg_perm _ _).mem_iff.1 hx) with hx | hx
    · exact k.1 x hx
    · rcases List.mem_cons.1 hx with rfl | hx
      · exact hab
      · exact h.trans _ _ _ hab ((List.pairwise_cons.1 hR).1 x hx)
theorem ins1_mrg (h : TP c) (a : α) (X Y : List α) : ins1 c a (mrg c X Y) = mrg c (ins1 c a X) Y := by
  fun_induction mrg c X Y with
  | case1 Y =>
    induction Y with
    | nil => simp [ins1]
    | cons y Y ih =>
      simp only [ins1] at ih ⊢
      rw [mrg_cons]
      by_cases q : c a y ≤ 0
      · rw [if_pos q, if_neg (h.nlt.2 q), mrg_nil]
      · rw [if_neg q, if_pos (by have := h.flip a y; omega), ih]
  | case2 x X => simp
  | case3 x X y Y hc ih =>
    simp only [ins1] at ih ⊢
    by_cases q : c a x ≤ 0
    · rw [if_pos q] at ih ⊢
      rw [mrg_cons]
      by_cases p : c a y ≤ 0
      · rw [if_pos p, if_neg (h.nlt.2 p), mrg_cons, if_pos hc]
      · rw [if_neg p, if_pos (by have := h.flip a y; omega), ih]
    · rw [if_neg q] at ih ⊢
      have p : ¬ c a y ≤ 0 := by
        intro p
        have := h.le_lt p hc; omega
      rw [if_neg p, mrg_cons, if_pos hc, ih]
  | case4 x X y Y hc ih =>
    simp only [ins1]
    by_cases q : c a x ≤ 0
    · rw [if_pos q, if_pos q, mrg_cons, if_neg, mrg_cons, if_neg hc]
      exact h.nlt.2 (h.trans _ _ _ q (h.nlt.1 hc))
    · rw [if_neg q, if_neg q, mrg_cons, if_neg hc, ih]
theorem isrt_mrg (h : TP c) (L R : List α) : isrt c (L ++ R) = mrg c (isrt c L) (isrt c R) := by
  induction L with
  | nil => simp [isrt]
  | cons a L ih => simp only [List.cons_append, isrt, ih, ins1_mrg h]
theorem isrt_srt' (h : TP c) (l : List α) : Srt c (isrt c l) := by
  induction l with
  | nil => simp [isrt, Srt]
  | cons a r ih =>
    have : isrt c (a :: r) = mrg c [a] (isrt c r) := by rw [← List.singleton_append, isrt_mrg h]; rfl
    rw [this]
    exact mrg_srt h (by simp [Srt]) ih
theorem isrt_snoc (h : TP c) (L : List α) (x : α) : isrt c (L ++ [x]) = mrg c (isrt c L) [x] := isrt_mrg h L [x]
theorem mrg_app {L R : List α} (h1 : ∀ a ∈ L, ∀ b ∈ R, ¬ c b a < 0) : mrg c L R = L ++ R := by
  have := mrg_split (c := c) (L1 := L) (L2 := []) (R1 := []) (R2 := R) h1 (by simp)
  simpa using this
theorem mrg_one {U V : List α} {x : α} (h1 : ∀ a ∈ U, ¬ c x a < 0) (h2 : ∀ a ∈ V, c x a < 0) : mrg c (U ++ V) [x] = U ++ x :: V := by
  have := mrg_split (c := c) (L1 := U) (L2 := V) (R1 := [x]) (R2 := []) (by simp) (by simpa using h2)
  rw [List.append_nil] at this
  rw [this, mrg_app (by simpa using h1)]; simp
theorem mrg_one' {U V : List α} {x : α} (h1 : ∀ a ∈ U, c a x < 0) (h2 : ∀ a ∈ V, ¬ c a x < 0) : mrg c [x] (U ++ V) = U ++ x :: V := by
  have := mrg_split (c := c) (L1 := []) (L2 := [x]) (R1 := U) (R2 := V) (by simp) (by simpa using h1)
  rw [List.nil_append] at this
  rw [this, mrg_nil, mrg_app (by simpa using h2)]; simp
theorem isrt_self' (h : TP c) {w : List α} (hs : Srt c w) : isrt c w = w := by
  induction w with
  | nil => rfl
  | cons a w ih =>
    have k := List.pairwise_cons.1 hs
    have e : isrt c (a :: w) = mrg c [a] (isrt c w) := by rw [← List.singleton_append, isrt_mrg h]; rfl
    rw [e, ih k.2, mrg_app]
    · rfl
    · intro x hx b hb
      simp at hx; subst hx
      exact h.nlt.2 (k.1 b hb)
end
end Go.AI
end
section
/- Rows of things in a box: places, exchanges. Plain. -/
namespace Go.AI
section
variable {α : Type}
/-- two places exchanged, the first one written first -/
def swap2 (D : List α) (i j : Nat) : List α := match D[i]?, D[j]? with
  | some x, some y => (D.set i y).set j x
  | _, _ => D
theorem swap2_eq {D : List α} {i j : Nat} {x y : α} (h1 : D[i]? = some x) (h2 : D[j]? = some y) : swap2 D i j = (D.set i y).set j x := by
  unfold swap2; rw [h1, h2]
@[simp] theorem swap2_len {D : List α} {i j : Nat} : (swap2 D i j).length = D.length := by
  unfold swap2; split <;> simp
/-- rows of n exchanged, from two places on -/
def swapN (D : List α) (x y : Nat) : Nat → List α
  | 0 => D
  | n + 1 => swap2 (swapN D x y n) (x + n) (y + n)
@[simp] theorem swapN_len {D : List α} {x y n : Nat} : (swapN D x y n).length = D.length := by
  induction n with
  | zero => rfl
  | succ n ih => rw [swapN, swap2_len, ih]
theorem swap2_at {A B C : List α} {a d : α} : swap2 (A ++ a :: (B ++ d :: C)) A.length (A.length + (B.length + 1)) = A ++ d :: (B ++ a :: C) := by
  have := two (A := A) (B := B) (C := C) (a := a) (d := d) rfl rfl
  rw [swap2_eq this.1 this.2.1, this.2.2]
theorem swapN_at {pre U mid V post : List α} {n : Nat} (hU : U.length = n) (hV : V.length = n) :
    swapN (pre ++ (U ++ (mid ++ (V ++ post)))) pre.length (pre.length + (n + mid.length)) n = pre ++ (V ++ (mid ++ (U ++ post))) := by
  have key : ∀ k, k ≤ n → swapN (pre ++ (U ++ (mid ++ (V ++ post)))) pre.length (pre.length + (n + mid.length)) k = pre ++ ((V.take k ++ U.drop k) ++ (mid ++ ((U.take k ++ V.drop k) ++ post))) := by
    intro k hk
    induction k with
    | zero => simp [swapN]
    | succ k ih =>
      rw [swapN, ih (by omega)]
      obtain ⟨u, hu⟩ : ∃ u, U.drop k = u :: U.drop (k + 1) := ⟨_, List.drop_eq_getElem_cons (by omega)⟩
      obtain ⟨v, hv⟩ : ∃ v, V.drop k = v :: V.drop (k + 1) := ⟨_, List.drop_eq_getElem_cons (by omega)⟩
      have hu2 : U.take (k + 1) = U.take k ++ [u] := by
        have e : U[k]? = some u := by rw [← List.head?_drop, hu]; rfl
        rw [List.take_succ, e]; rfl
      have hv2 : V.take (k + 1) = V.take k ++ [v] := by
        have e : V[k]? = some v := by rw [← List.head?_drop, hv]; rfl
        rw [List.take_succ, e]; rfl
      rw [hu, hv, hu2, hv2]
      have := swap2_at (A := pre ++ V.take k) (a := u) (B := U.drop (k + 1) ++ (mid ++ U.take k)) (d := v) (C := V.drop (k + 1) ++ post)
      have e1 : (pre ++ V.take k).length = pre.length + k := by simp; omega
      have e2 : pre.length + k + ((U.drop (k + 1) ++ (mid ++ U.take k)).length + 1) = pre.length + (n + mid.length) + k := by simp; omega
      rw [e1, e2] at this
      simpa using this
  have := key n (Nat.le_refl _)
  rw [this, List.take_of_length_le (by omega), List.take_of_length_le (by omega), List.drop_of_length_le (by omega), List.drop_of_length_le (by omega)]
  simp
theorem bubL {pre S rest : List α} {x y : α} {u : Nat} (h : S[u]? = some y) :
    (pre ++ (S.take (u + 1) ++ x :: (S.drop (u + 1) ++ rest)))[pre.length + u]? = some y ∧ (pre ++ (S.take (u + 1) ++ x :: (S.drop (u + 1) ++ rest)))[pre.length + (u + 1)]? = some x ∧
    swap2 (pre ++ (S.take (u + 1) ++ x :: (S.drop (u + 1) ++ rest))) (pre.length + (u + 1)) (pre.length + u) = pre ++ (S.take u ++ x :: (S.drop u ++ rest)) := by
  have hl : u < S.length := (List.getElem?_eq_some_iff.1 h).1
  have hd : S.drop u = y :: S.drop (u + 1) := by rw [List.drop_eq_getElem_cons hl]; congr 1; exact (List.getElem?_eq_some_iff.1 h).2
  have ht : S.take (u + 1) = S.take u ++ [y] := by rw [List.take_succ, h]; rfl
  rw [ht, hd]
  have e : pre ++ (S.take u ++ [y] ++ x :: (S.drop (u + 1) ++ rest)) = (pre ++ S.take u) ++ y :: ([] ++ x :: (S.drop (u + 1) ++ rest)) := by simp
  have e1 : (pre ++ S.take u).length = pre.length + u := by simp; omega
  have := two (A := pre ++ S.take u) (B := []) (C := S.drop (u + 1) ++ rest) (a := y) (d := x) (i := pre.length + u) (j := pre.length + (u + 1)) (by omega) (by simp; omega)
  rw [e]
  refine ⟨this.1, this.2.1, ?_⟩
  rw [swap2_eq this.2.1 this.1, List.set_comm _ _ (by omega), this.2.2]
  simp
theorem bubR {pre S rest : List α} {x y : α} {u : Nat} (h : S[u]? = some y) :
    (pre ++ (S.take u ++ x :: (S.drop u ++ rest)))[pre.length + u]? = some x ∧ (pre ++ (S.take u ++ x :: (S.drop u ++ rest)))[pre.length + (u + 1)]? = some y ∧
    swap2 (pre ++ (S.take u ++ x :: (S.drop u ++ rest))) (pre.length + u) (pre.length + (u + 1)) = pre ++ (S.take (u + 1) ++ x :: (S.drop (u + 1) ++ rest)) := by
  have hl : u < S.length := (List.getElem?_eq_some_iff.1 h).1
  have hd : S.drop u = y :: S.drop (u + 1) := by rw [List.drop_eq_getElem_cons hl]; congr 1; exact (List.getElem?_eq_some_iff.1 h).2
  have ht : S.take (u + 1) = S.take u ++ [y] := by rw [List.take_succ, h]; rfl
  rw [ht, hd]
  have e : pre ++ (S.take u ++ x :: (y :: S.drop (u + 1) ++ rest)) = (pre ++ S.take u) ++ x :: ([] ++ y :: (S.drop (u + 1) ++ rest)) := by simp
  have e1 : (pre ++ S.take u).length = pre.length + u := by simp; omega
  have := two (A := pre ++ S.take u) (B := []) (C := S.drop (u + 1) ++ rest) (a := x) (d := y) (i := pre.length + u) (j := pre.length + (u + 1)) (by omega) (by simp; omega)
  rw [e]
  refine ⟨this.1, this.2.1, ?_⟩
  rw [swap2_eq this.1 this.2.1, this.2.2]
  simp

theorem srt_get {c : α → α → Int} (h : TP c) {L : List α} (hs : Srt c L) {i j : Nat} {x y : α} (hij : i ≤ j) (hx : L[i]? = some x) (hy : L[j]? = some y) : c x y ≤ 0 := by
  obtain ⟨h1, rfl⟩ := List.getElem?_eq_some_iff.1 hx
  obtain ⟨h2, rfl⟩ := List.getElem?_eq_some_iff.1 hy
  rcases Nat.lt_or_ge i j with q | q
  · exact List.pairwise_iff_getElem.1 hs i j h1 h2 q
  · obtain rfl : i = j := by omega
    rw [h.refl]; omega
theorem mem_take_get {L : List α} {k : Nat} {x : α} (h : x ∈ L.take k) : ∃ i, i < k ∧ L[i]? = some x := by
  obtain ⟨i, hi⟩ := List.mem_iff_getElem?.1 h
  rw [List.getElem?_take] at hi
  split at hi
  · exact ⟨i, ‹_›, hi⟩
  · cases hi
theorem mem_drop_get {L : List α} {k : Nat} {x : α} (h : x ∈ L.drop k) : ∃ i, k ≤ i ∧ L[i]? = some x := by
  obtain ⟨i, hi⟩ := List.mem_iff_getElem?.1 h
  rw [List.getElem?_drop] at hi
  exact ⟨k + i, by omega, hi⟩
def below1 (c : α → α → Int) (L R : List α) (s t : Nat) : Prop := ∃ x y, L[s - 1]? = some x ∧ R[t]? = some y ∧ ¬ c y x < 0
def below2 (c : α → α → Int) (L R : List α) (s t : Nat) : Prop := ∃ x y, L[s]? = some x ∧ R[t - 1]? = some y ∧ c y x < 0
/-- where two rows may be cut -/
theorem mrg_cut {c : α → α → Int} (h : TP c) {L R : List α} (hL : Srt c L) (hR : Srt c R) {s t : Nat}
    (h1 : s = 0 ∨ R.length ≤ t ∨ below1 c L R s t) (h2 : t = 0 ∨ L.length ≤ s ∨ below2 c L R s t) :
    mrg c L R = mrg c (L.take s) (R.take t) ++ mrg c (L.drop s) (R.drop t) := by
  conv => lhs; rw [← List.take_append_drop s L, ← List.take_append_drop t R]
  refine mrg_split (fun a ha b hb => ?_) (fun b hb a ha => ?_)
  · obtain ⟨i, hi, ha⟩ := mem_take_get ha
    obtain ⟨j, hj, hb⟩ := mem_drop_get hb
    rcases h1 with rfl | h1 | ⟨x, y, hx, hy, hxy⟩
    · omega
    · have := (List.getElem?_eq_some_iff.1 hb).1; omega
    · exact h.nlt.2 (h.trans _ _ _ (srt_get h hL (by omega) ha hx) (h.trans _ _ _ (h.nlt.1 hxy) (srt_get h hR hj hy hb)))
  · obtain ⟨i, hi, hb⟩ := mem_take_get hb
    obtain ⟨j, hj, ha⟩ := mem_drop_get ha
    rcases h2 with rfl | h2 | ⟨x, y, hx, hy, hxy⟩
    · omega
    · have := (List.getElem?_eq_some_iff.1 ha).1; omega
    · exact h.le_lt (srt_get h hR (by omega) hb hy) (h.lt_le hxy (srt_get h hL hj hx ha))
theorem srt_take {c : α → α → Int} {L : List α} (h : Srt c L) (k : Nat) : Srt c (L.take k) := List.Pairwise.sublist (List.take_sublist k L) h
theorem srt_drop {c : α → α → Int} {L : List α} (h : Srt c L) (k : Nat) : Srt c (L.drop k) := List.Pairwise.sublist (List.drop_sublist k L) h
/-- sorted by pieces of k -/
def blk (c : α → α → Int) (k : Nat) (L : List α) : List α := if h : k = 0 ∨ L.length ≤ k then isrt c L else isrt c (L.take k) ++ blk c k (L.drop k)
termination_by L.length
decreasing_by simp; omega
theorem blk_small {c : α → α → Int} {k : Nat} {L : List α} (h : L.length ≤ k) : blk c k L = isrt c L := by rw [blk, dif_pos (.inr h)]
theorem blk_step {c : α → α → Int} {k : Nat} (hk : 0 < k) (L : List α) : blk c k L = isrt c (L.take k) ++ blk c k (L.drop k) := by
  by_cases h : L.length ≤ k
  · rw [blk_small h, List.take_of_length_le h, List.drop_of_length_le h, blk_small (by simp)]; simp [isrt]
  · rw [blk, dif_neg (by omega)]
theorem blk_app {c : α → α → Int} {k : Nat} (hk : 0 < k) (q : Nat) : ∀ (P Q : List α), P.length = k * q → blk c k (P ++ Q) = blk c k P ++ blk c k Q := by
  induction q with
  | zero =>
    intro P Q h
    have : P = [] := List.length_eq_zero_iff.1 (by omega)
    subst this
    simp [blk_small, isrt]
  | succ q ih =>
    intro P Q h
    rw [Nat.mul_succ] at h
    rw [blk_step hk (P ++ Q), blk_step hk P, List.take_append_of_le_length (by omega), List.drop_append_of_le_length (by omega), ih (P.drop k) Q (by simp; omega), List.append_assoc]
theorem blk_len {c : α → α → Int} {k : Nat} (L : List α) : (blk c k L).length = L.length := by
  fun_induction blk c k L with
  | case1 => exact isrt_len _
  | case2 L h ih => simp only [List.length_append, isrt_len, ih]; simp; omega
/-- one piece more -/
theorem blk_next {c : α → α → Int} {k a : Nat} (hk : 0 < k) {L : List α} (q : Nat) (ha : a = k * q) (h : a + k ≤ L.length) : blk c k (L.take (a + k)) = blk c k (L.take a) ++ isrt c ((L.drop a).take k) := by
  rw [List.take_add, blk_app hk q _ _ (by simp; omega), blk_small (L := (L.drop a).take k) (by simp; omega)]
theorem blk_last {c : α → α → Int} {k a : Nat} (hk : 0 < k) {L : List α} (q : Nat) (ha : a = k * q) (h : a ≤ L.length) (h2 : L.length ≤ a + k) : blk c k L = blk c k (L.take a) ++ isrt c (L.drop a) := by
  conv => lhs; rw [← List.take_append_drop a L]
  rw [blk_app hk q _ _ (by simp; omega), blk_small (L := L.drop a) (by simp; omega)]
/-! rows in cells -/
def rowE (E : α → List AV) (L : List α) : List AV := L.flatMap E
variable {E : α → List AV} {sz : Nat}
theorem rowE_len (hE : ∀ x, (E x).length = sz) (L : List α) : (rowE E L).length = L.length * sz := by
  induction L with
  | nil => simp [rowE]
  | cons a L ih => simp only [rowE, List.flatMap_cons, List.length_append, List.length_cons, hE] at ih ⊢; rw [ih, Nat.add_mul]; omega
theorem rowE_split (hE : ∀ x, (E x).length = sz) {L : List α} {i : Nat} {x : α} (h : L[i]? = some x) :
    (rowE E L).take (i * sz) = rowE E (L.take i) ∧ (rowE E L).drop (i * sz) = E x ++ rowE E (L.drop (i + 1)) := by
  have hl : i < L.length := (List.getElem?_eq_some_iff.1 h).1
  have hd : L.drop i = x :: L.drop (i + 1) := by rw [List.drop_eq_getElem_cons hl]; congr 1; exact (List.getElem?_eq_some_iff.1 h).2
  have e : rowE E L = rowE E (L.take i) ++ rowE E (L.drop i) := by
    conv => lhs; rw [← List.take_append_drop i L]
    unfold rowE; rw [List.flatMap_append]
  have e1 : (rowE E (L.take i)).length = i * sz := by rw [rowE_len hE]; simp; rw [Nat.min_eq_left (by omega)]
  constructor
  · rw [e, ← e1, List.take_left]
  · rw [e, ← e1, List.drop_left, hd]; rfl
theorem rowE_get (hE : ∀ x, (E x).length = sz) (hd : ∀ x, (E x).map dem = E x) {L : List α} {i : Nat} {x : α} (h : L[i]? = some x) : (((rowE E L).drop (i * sz)).take sz).map dem = E x := by
  rw [(rowE_split hE h).2, ← hE x, List.take_left, hd]
theorem rowE_set (hE : ∀ x, (E x).length = sz) {L : List α} {i : Nat} {y : α} (h : i < L.length) :
    (rowE E L).take (i * sz) ++ (E y ++ (rowE E L).drop (i * sz + sz)) = rowE E (L.set i y) := by
  obtain ⟨x, hx⟩ : ∃ x, L[i]? = some x := ⟨_, List.getElem?_eq_getElem h⟩
  have := rowE_split hE hx
  rw [this.1, ← List.drop_drop, this.2, List.drop_left' (hE x), List.set_eq_take_append_cons_drop, if_pos h]
  unfold rowE; rw [List.flatMap_append, List.flatMap_cons]
theorem lowL_rowE {n : Nat} (hE : ∀ x, lowL n (E x)) (L : List α) : lowL n (rowE E L) := by
  induction L with
  | nil => trivial
  | cons a L ih => unfold rowE at *; rw [List.flatMap_cons, lowL_append]; exact ⟨hE a, ih⟩
theorem lowS_setset {σ : List (List AV)} {b : Nat} {X Y : List AV} (h : lowL σ.length Y) : lowS (σ.set b X) (σ.set b Y) := by
  intro b' hb
  by_cases q : b = b'
  · subst q; exact .inr ⟨Y, by simp at hb; simp [hb], by simpa using h⟩
  · exact .inl (by rw [List.getElem?_set, if_neg q, List.getElem?_set, if_neg q])
end
end Go.AI
end
section
/- Lists with keys, merged: plain. -/
namespace Go.AI
set_option linter.unusedSectionVars false
section
variable {α κ : Type} [DecidableEq κ] [DecidableEq α] {key : α → κ}
/-- each is taken once; none, if two of a key differ -/
def mrgF (key : α → κ) (out : List α) : List α → Option (List α)
  | [] => some out
  | x :: r => match out.find? (fun y => decide (key y = key x)) with
    | some y => if y = x then mrgF key out r else none
    | none => mrgF key (out ++ [x]) r
/-- no key twice -/
def Dk (key : α → κ) (l : List α) : Prop := l.Pairwise fun a b => key a ≠ key b
theorem Dk.inj {l : List α} (h : Dk key l) {x y : α} (hx : x ∈ l) (hy : y ∈ l) (e : key x = key y) : x = y := by
  induction l with
  | nil => cases hx
  | cons a r ih =>
    have k := List.pairwise_cons.1 h
    rcases List.mem_cons.1 hx with rfl | hx
    · rcases List.mem_cons.1 hy with rfl | hy
      · rfl
      · exact absurd e (k.1 y hy)
    · rcases List.mem_cons.1 hy with he | hy
      · rw [he] at e; exact absurd e.symm (k.1 x hx)
      · exact ih k.2 hx hy
theorem Dk.nil : Dk key ([] : List α) := List.Pairwise.nil
theorem Dk.snoc {out : List α} {x : α} (h : Dk key out) (hn : out.find? (fun y => decide (key y = key x)) = none) : Dk key (out ++ [x]) := by
  refine List.pairwise_append.2 ⟨h, by simp, fun a ha b hb => ?_⟩
  rw [List.mem_singleton] at hb; subst hb
  have := List.find?_eq_none.1 hn a ha
  simpa using this
theorem find_key {out : List α} {x y : α} (h : out.find? (fun y => decide (key y = key x)) = some y) : y ∈ out ∧ key y = key x :=
  ⟨List.mem_of_find?_eq_some h, by simpa using List.find?_some h⟩
theorem find_dk {l : List α} (h : Dk key l) {x : α} (hx : x ∈ l) {k : κ} (e : key x = k) : l.find? (fun y => decide (key y = k)) = some x := by
  subst e
  cases hf : l.find? (fun y => decide (key y = key x)) with
  | none => have := List.find?_eq_none.1 hf x hx; simp at this
  | some y => have := find_key hf; rw [h.inj this.1 hx this.2]
theorem mrgF_some : ∀ {l out o : List α}, Dk key out → mrgF key out l = some o → Dk key o ∧ ∀ z, z ∈ o ↔ z ∈ out ∨ z ∈ l
  | [], out, o, h, e => by
    rw [mrgF] at e; injection e with e; subst e
    exact ⟨h, fun z => by simp⟩
  | x :: r, out, o, h, e => by
    rw [mrgF] at e
    cases hf : out.find? (fun y => decide (key y = key x)) with
    | none =>
      simp only [hf] at e
      have := mrgF_some (h.snoc hf) e
      exact ⟨this.1, fun z => by rw [this.2]; simp [or_assoc]⟩
    | some y =>
      simp only [hf] at e
      have hy := find_key hf
      by_cases hq : y = x
      · rw [if_pos hq] at e
        have := mrgF_some h e
        refine ⟨this.1, fun z => ?_⟩
        rw [this.2, List.mem_cons]
        constructor
        · rintro (h | h)
          · exact .inl h
          · exact .inr (.inr h)
        · rintro (h | h | h)
          · exact .inl h
          · exact .inl (by rw [h, ← hq]; exact hy.1)
          · exact .inr h
      · rw [if_neg hq] at e; cases e
theorem mrgF_none : ∀ {l out : List α}, mrgF key out l = none → ∃ x y, (x ∈ out ∨ x ∈ l) ∧ (y ∈ out ∨ y ∈ l) ∧ key x = key y ∧ x ≠ y
  | [], out, e => by rw [mrgF] at e; cases e
  | x :: r, out, e => by
    rw [mrgF] at e
    cases hf : out.find? (fun y => decide (key y = key x)) with
    | none =>
      simp only [hf] at e
      obtain ⟨u, v, hu, hv, h1, h2⟩ := mrgF_none e
      refine ⟨u, v, ?_, ?_, h1, h2⟩
      · simpa [or_assoc] using hu
      · simpa [or_assoc] using hv
    | some y =>
      simp only [hf] at e
      have hy := find_key hf
      by_cases hq : y = x
      · rw [if_pos hq] at e
        obtain ⟨u, v, hu, hv, h1, h2⟩ := mrgF_none e
        refine ⟨u, v, ?_, ?_, h1, h2⟩
        · rcases hu with h | h
          · exact .inl h
          · exact .inr (.tail _ h)
        · rcases hv with h | h
          · exact .inl h
          · exact .inr (.tail _ h)
      · exact ⟨y, x, .inl hy.1, .inr (.head _), hy.2, hq⟩
theorem mrgF_ns {l1 l2 : List α} (h : ∀ z, z ∈ l1 ↔ z ∈ l2) (e : mrgF key [] l1 = none) : mrgF key [] l2 = none := by
  obtain ⟨x, y, hx, hy, h1, h2⟩ := mrgF_none e
  cases hq : mrgF key [] l2 with
  | none => rfl
  | some o =>
    have ho := mrgF_some .nil hq
    simp only [List.not_mem_nil, false_or] at hx hy ho
    exact absurd (ho.1.inj ((ho.2 x).2 ((h x).1 hx)) ((ho.2 y).2 ((h y).1 hy)) h1) h2
theorem mrgF_again : ∀ {l out : List α}, Dk key out → (∀ z ∈ l, z ∈ out) → mrgF key out l = some out
  | [], out, _, _ => by rw [mrgF]
  | x :: r, out, h, hm => by
    rw [mrgF, find_dk h (hm x (.head _)) rfl]
    simp only [if_true]
    exact mrgF_again h fun z hz => hm z (.tail _ hz)
theorem mrgF_app : ∀ {l out r : List α}, Dk key (out ++ l) → mrgF key out (l ++ r) = mrgF key (out ++ l) r
  | [], out, r, _ => by simp
  | x :: l, out, r, h => by
    rw [List.cons_append, mrgF]
    have hn : out.find? (fun y => decide (key y = key x)) = none := by
      rw [List.find?_eq_none]
      intro y hy
      have := (List.pairwise_append.1 h).2.2 y hy x (.head _)
      simpa using this
    rw [hn]
    have e : out ++ x :: l = (out ++ [x]) ++ l := by simp
    rw [e] at h ⊢
    exact mrgF_app h
theorem mrgF_twice {l : List α} (h : Dk key l) : mrgF key [] (l ++ l) = some l := by
  rw [mrgF_app (by simpa using h)]
  exact mrgF_again (by simpa using h) (by simp)
theorem Dk.perm {l1 l2 : List α} (h : Dk key l1) (hp : l2.Perm l1) : Dk key l2 :=
  (hp.pairwise_iff (fun e => Ne.symm e)).2 h
theorem Dk.notmem {a : α} {r : List α} (h : Dk key (a :: r)) : a ∉ r := fun hm => (List.pairwise_cons.1 h).1 a hm rfl
/-- what is sorted, of one set, is one list -/
theorem srt_same {c : α → α → Int} (hz : ∀ a b, c a b = 0 → key a = key b) (hc : TP c) : ∀ {w1 w2 : List α}, Dk key w1 → Dk key w2 → Srt c w1 → Srt c w2 → (∀ z, z ∈ w1 ↔ z ∈ w2) → w1 = w2
  | [], [], _, _, _, _, _ => rfl
  | [], b :: r, _, _, _, _, h => absurd ((h b).2 (.head _)) (by simp)
  | a :: r, [], _, _, _, _, h => absurd ((h a).1 (.head _)) (by simp)
  | a :: r1, b :: r2, d1, d2, s1, s2, h => by
    have p1 := List.pairwise_cons.1 s1
    have p2 := List.pairwise_cons.1 s2
    have hab : a = b := by
      by_cases q : a = b
      · exact q
      · have ha : a ∈ r2 := by
          rcases List.mem_cons.1 ((h a).1 (.head _)) with e | e
          · exact absurd e q
          · exact e
        have hb : b ∈ r1 := by
          rcases List.mem_cons.1 ((h b).2 (.head _)) with e | e
          · exact absurd e.symm q
          · exact e
        have h1 := p1.1 b hb
        have h2 := p2.1 a ha
        have h3 := hc.flip a b
        exact d1.inj (.head _) ((h b).2 (.head _)) (hz a b (by omega))
    subst hab
    congr 1
    refine srt_same hz hc (List.pairwise_cons.1 d1).2 (List.pairwise_cons.1 d2).2 p1.2 p2.2 fun z => ⟨fun hm => ?_, fun hm => ?_⟩
    · rcases List.mem_cons.1 ((h z).1 (.tail _ hm)) with rfl | e
      · exact absurd hm d1.notmem
      · exact e
    · rcases List.mem_cons.1 ((h z).2 (.tail _ hm)) with rfl | e
      · exact absurd hm d2.notmem
      · exact e
/-- a merge hangs on no order -/
theorem mrg_same {c : α → α → Int} (hz : ∀ a b, c a b = 0 → key a = key b) (hc : TP c) {l1 l2 o1 o2 : List α} (h : ∀ z, z ∈ l1 ↔ z ∈ l2) (e1 : mrgF key [] l1 = some o1) (e2 : mrgF key [] l2 = some o2) : isrt c o1 = isrt c o2 := by
  have h1 := mrgF_some .nil e1
  have h2 := mrgF_some .nil e2
  refine srt_same hz hc (h1.1.perm (isrt_perm _)) (h2.1.perm (isrt_perm _)) (isrt_srt' hc _) (isrt_srt' hc _) fun z => ?_
  rw [isrt_mem, isrt_mem, h1.2, h2.2]
  simp [h z]
end
end Go.AI
end
section
/- A statement's arguments, as the evaluation holds them. No program is in sight. -/
namespace Go.AI
open Go.RowKit Go.ChangeShapes
set_option linter.unusedVariables false

theorem plain_addr {w : World} {a : Addr} {v : Value} (h : w.cell? a = some v) : ∃ b off, a = ⟨b, off, none⟩ := by
  obtain ⟨b, off, s⟩ := a
  cases s with
  | none => exact ⟨b, off, rfl⟩
  | some s =>
    simp only [World.cell?] at h
    split at h <;> simp at h

section
variable {H : Type} {enc : TypeId × Value → H} {P : Program} {W : World} {t e : TypeId} {α : Type}

/-- what is read at a type is a value of α, held as R says; Q: what of the datum -/
structure Reads (enc : TypeId × Value → H) (P : Program) (W : World) (t : TypeId) {α : Type} (R : α → AV) (Q : α → DataW H → Prop) : Prop where
  cells : ∀ a, (R a).cells.length = P.cellsOf t ∧ (∀ c ∈ (R a).cells, plain c = true)
  pos : 0 < P.cellsOf t
  rd : ∀ fuel cs x, DataW.trod enc P W 0 (fun _ => true) true fuel t cs = some x → ∃ a, Q a x.1 ∧ cs.length = P.cellsOf t ∧ ∀ j c, (R a).cells[j]? = some c → Rep W.heap.size gh0 W (cs.getD j undef) c

theorem one_cell {v : Value} {c : AV} (h : Rep W.heap.size gh0 W v c) : ∀ j c', [c][j]? = some c' → Rep W.heap.size gh0 W ([v].getD j undef) c' := by
  intro j c' e
  cases j with
  | zero => simp at e; subst e; exact h
  | succ j => simp at e

theorem Reads.int {k : IntKind} (ht : P.underlying t = some (.int k)) (hc : P.cellsOf t = 1) : Reads enc P W t (fun n : Int => AV.int k n) (fun n d => d = .lit (.int k n) ∧ (Lit.int k n).wf = true) := by
  refine ⟨fun a => ⟨by rw [hc]; rfl, fun c h => by simp [AV.cells] at h; subst h; rfl⟩, by omega, fun fuel cs x h => ?_⟩
  obtain ⟨n, rfl, rfl, hw⟩ := DataW.trod_int ht h
  exact ⟨n, ⟨rfl, hw⟩, by simp [hc], one_cell (.int k n)⟩
theorem Reads.u8 (ht : P.underlying t = some (.int .u8)) (hc : P.cellsOf t = 1) : Reads enc P W t AV.u8 (fun n d => d = .lit (.int .u8 n.toNat)) := by
  refine ⟨fun a => ⟨by rw [hc]; rfl, fun c h => by simp [AV.cells, AV.u8] at h; subst h; rfl⟩, by omega, fun fuel cs x h => ?_⟩
  obtain ⟨n, rfl, rfl, hw⟩ := DataW.trod_int ht h
  have hb := bounds_u8 hw
  obtain ⟨m, rfl⟩ := Int.eq_ofNat_of_zero_le hb.1
  have hm : (UInt8.ofNat m).toNat = m := by simp only [UInt8.toNat_ofNat']; omega
  exact ⟨UInt8.ofNat m, by rw [hm], by simp [hc], one_cell (by rw [AV.u8, hm]; exact .int _ _)⟩
theorem Reads.bool (ht : P.underlying t = some .bool) (hc : P.cellsOf t = 1) : Reads enc P W t AV.bool (fun b d => d = .lit (.bool b)) := by
  refine ⟨fun a => ⟨by rw [hc]; rfl, fun c h => by simp [AV.cells] at h; subst h; rfl⟩, by omega, fun fuel cs x h => ?_⟩
  cases fuel with
  | zero => simp [DataW.trod] at h
  | succ n =>
    unfold DataW.trod at h
    rw [ht] at h
    split at h
    all_goals first
      | (rename_i b _; injection h with h; subst h; exact ⟨b, rfl, by simp [hc], one_cell (.bool _)⟩)
      | (simp at *; done)
theorem Reads.str (ht : P.underlying t = some .string) (hc : P.cellsOf t = 1) : Reads enc P W t AV.str (fun s d => d = .lit (.string s) ∧ s.length ≤ maxLen) := by
  refine ⟨fun a => ⟨by rw [hc]; rfl, fun c h => by simp [AV.cells] at h; subst h; rfl⟩, by omega, fun fuel cs x h => ?_⟩
  obtain ⟨s, rfl, rfl, hw⟩ := DataW.trod_string ht h
  exact ⟨s.data.toList, ⟨rfl, by simpa using hw⟩, by simp [hc], one_cell (.str s)⟩

theorem cells_get {w : World} {a : Addr} {n : Nat} {cs : List Value} (h : w.cells? 0 a n = some cs) : cs.length = n ∧ ∀ j, j < n → w.cell? (a.add j) = some (cs.getD j undef) := by
  unfold World.cells? at h
  rw [if_pos (Nat.zero_le _)] at h
  have hl := mapM_some_length h
  refine ⟨by simpa using hl, fun j hj => ?_⟩
  have h1 := mapM_some_get h j j (by simp [hj])
  have hlt : j < cs.length := by rw [hl]; simpa using hj
  rw [h1, List.getElem?_eq_getElem hlt]
  simp [List.getD, List.getElem?_eq_getElem hlt]

theorem flat_at {α : Type} {R : α → AV} (l : List α) (i j : Nat) (c : AV) (h : ((l.map R)[i]?.bind fun e => e.cells[j]?) = some c) : ∃ a, l[i]? = some a ∧ (R a).cells[j]? = some c := by
  rw [List.getElem?_map] at h
  cases hx : l[i]? with
  | none => rw [hx] at h; cases h
  | some a => rw [hx] at h; exact ⟨a, rfl, h⟩
theorem choose_list {α : Type} {Q : Nat → α → Prop} (n : Nat) (h : ∀ i, i < n → ∃ z, Q i z) : ∃ l : List α, l.length = n ∧ ∀ (i : Nat) (z : α), l[i]? = some z → Q i z := by
  induction n with
  | zero => exact ⟨[], rfl, fun i z e => by simp at e⟩
  | succ n ih =>
    obtain ⟨l, hl, hq⟩ := ih fun i hi => h i (by omega)
    obtain ⟨z, hz⟩ := h n (by omega)
    refine ⟨l ++ [z], by simp [hl], fun i y e => ?_⟩
    rw [List.getElem?_append] at e
    split at e
    · exact hq i y e
    · rename_i hi
      have : i = n := by
        rcases Nat.lt_or_ge (i - l.length) 1 with q | q
        · omega
        · rw [List.getElem?_eq_none (by simpa using q)] at e; cases e
      subst this
      simp [hl] at e; subst e; exact hz

/-- a slice's datum, by its elements' -/
def slQ {α : Type} (Q : α → DataW H → Prop) (l : List α) (d : DataW H) : Prop :=
  (l = [] ∧ d = .nil) ∨ ∃ ds rest, d = .slice ds rest ∧ l.length = ds.length ∧ l.length ≤ maxLen ∧ ∀ (i : Nat) (a : α) (x : DataW H), l[i]? = some a → ds[i]? = some x → Q a x

theorem Reads.slice {R : α → AV} {Q : α → DataW H → Prop} (h : Reads enc P W e R Q) (ht : P.underlying t = some (.slice e)) (hc : P.cellsOf t = 1) : Reads enc P W t (fun l : List α => AV.sl .sh (l.map R)) (slQ Q) := by
  refine ⟨fun a => ⟨by rw [hc]; rfl, fun c q => by simp [AV.cells] at q; subst q; rfl⟩, by omega, fun fuel cs x hx => ?_⟩
  rcases Go.Deep.open_slice ht hx with ⟨rfl, rfl⟩ | ⟨a, len, cap, m, n, D, Pl, rfl, hb, hl, hm, hm2, rfl, hel⟩
  · exact ⟨[], .inl ⟨rfl, rfl⟩, by simp [hc], one_cell (.slnil _)⟩
  · simp only [if_true] at hm2
    subst hm2
    obtain ⟨l, hl2, hq⟩ := choose_list (Q := fun i (z : α) => Q z (D i) ∧ ∀ j, j < P.cellsOf e → ∃ v, W.cell? ((a.add (i * P.cellsOf e)).add j) = some v ∧ ∀ c, (R z).cells[j]? = some c → Rep W.heap.size gh0 W v c) len (by
      intro i hi
      obtain ⟨cs', h1, h2⟩ := hel i (by omega)
      obtain ⟨z, h3, h4, h5⟩ := h.rd _ _ _ h2
      obtain ⟨h6, h7⟩ := cells_get h1
      exact ⟨z, h3, fun j hj => ⟨_, h7 j hj, fun c hc => h5 j c hc⟩⟩)
    subst hl2
    refine ⟨l, .inr ⟨_, _, rfl, by simp, by omega, fun i z x h1 h2 => ?_⟩, by simp [hc], one_cell ?_⟩
    · have hi : i < l.length := (List.getElem?_eq_some_iff.1 h1).1
      rw [List.getElem?_map, List.getElem?_range hi] at h2
      simp at h2; subst h2
      exact (hq i z h1).1
    · by_cases h0 : l = []
      · subst h0; exact   .sl0 a m .sh (by simp) hm
      · have hpos := h.pos
        have hlen : 0 < l.length := List.length_pos_iff.2 h0
        obtain ⟨z0, hz0⟩ : ∃ z, l[0]? = some z := ⟨_, List.getElem?_eq_getElem hlen⟩
        obtain ⟨v0, hv0, _⟩ := (hq 0 z0 hz0).2 0 hpos
        have hadd : ∀ (a : Addr) (i : Nat) b off, a = ⟨b, off, none⟩ → a.add i = ⟨b, off + i, none⟩ := fun a i b off q => by subst q; unfold Addr.add; split <;> simp_all
        obtain ⟨b, off, rfl⟩ : ∃ b off, a = ⟨b, off, none⟩ := by
          obtain ⟨b, off, s⟩ := a
          cases s with
          | none => exact ⟨b, off, rfl⟩
          | some s =>
            obtain ⟨b', off', q⟩ := plain_addr hv0
            simp [Addr.add] at q
        have hrl : (l.map R).length = l.length := by simp
        rw [← hrl]
        rw [hadd _ _ b off rfl, hadd _ _ b _ rfl] at hv0
        have hblk : b < W.heap.size := World.block_lt_of_cell? W _ hv0
        have hall : ∀ k, k < l.length * P.cellsOf e → ∃ z v, l[k / P.cellsOf e]? = some z ∧ W.cell? ⟨b, off + k, none⟩ = some v ∧ ∀ c, (R z).cells[k % P.cellsOf e]? = some c → Rep W.heap.size gh0 W v c := by
          intro k hk
          have hki : k / P.cellsOf e < l.length := (Nat.div_lt_iff_lt_mul hpos).2 hk
          obtain ⟨z, hz⟩ : ∃ z, l[k / P.cellsOf e]? = some z := ⟨_, List.getElem?_eq_getElem hki⟩
          obtain ⟨v, hv, hr⟩ := (hq _ z hz).2 (k % P.cellsOf e) (Nat.mod_lt _ hpos)
          have : (Addr.add (Addr.add ⟨b, off, none⟩ (k / P.cellsOf e * P.cellsOf e)) (k % P.cellsOf e)) = ⟨b, off + k, none⟩ := by
            rw [hadd _ _ b off rfl, hadd _ _ b _ rfl]
            have := Nat.div_add_mod k (P.cellsOf e)
            rw [Nat.mul_comm] at this
            rw [Nat.add_assoc, this]
          rw [this] at hv
          exact ⟨z, v, hz, hv, hr⟩
        refine .sl b off m (P.cellsOf e) .sh (l.map R) (fun k => (W.cell? ⟨b, off + k, none⟩).getD undef) (by simp) hpos (by simpa using hl) hm ?_ ?_ ?_
        · intro x hx
          obtain ⟨z, _, rfl⟩ := List.mem_map.1 hx
          exact h.cells z
        · intro k hk
          obtain ⟨z, v, h1, h2, h3⟩ := hall k (by simpa using hk)
          exact ⟨by rw [h2]; rfl, .inl hblk⟩
        · intro i j c hc'
          obtain ⟨z, hz, hzc⟩ := flat_at l i j c hc'
          have hi : i < l.length := (List.getElem?_eq_some_iff.1 hz).1
          have hj : j < P.cellsOf e := by rw [← (h.cells z).1]; exact (List.getElem?_eq_some_iff.1 hzc).1
          obtain ⟨z', v, h1, h2, h3⟩ := hall (i * P.cellsOf e + j) (by
            have : (i + 1) * P.cellsOf e ≤ l.length * P.cellsOf e := Nat.mul_le_mul_right _ hi
            rw [Nat.add_mul] at this; omega)
          have e1 : (i * P.cellsOf e + j) / P.cellsOf e = i := by rw [Nat.mul_comm, Nat.mul_add_div hpos, Nat.div_eq_of_lt hj]; rfl
          have e2 : (i * P.cellsOf e + j) % P.cellsOf e = j := by rw [Nat.mul_comm, Nat.mul_add_mod, Nat.mod_eq_of_lt hj]
          rw [e1, hz] at h1; injection h1 with h1; subst h1
          rw [e2] at h3
          simp only [h2, Option.getD_some]
          exact h3 c hzc

def oneT (d : Option TypeDesc) : Bool := match d with
  | some (.int _) => true
  | some .string => true
  | some .bool => true
  | some (.slice _) => true
  | _ => false
theorem val_one {r : Reach} {b0 : Nat} {v : Value} (hk : oneT (P.underlying t) = true) (h : Value.okWide P W r b0 t v) : v.cells = #[v] := by
  unfold Value.okWide at h
  cases hd : P.underlying t with
  | none => rw [hd] at hk; cases hk
  | some d =>
    rw [hd] at hk h
    cases d <;> simp only [oneT, Bool.false_eq_true] at hk
    all_goals
      simp only at h
      unfold Cell.okWide at h
      rw [hd] at h
      try unfold Cell.ok at h
      try rw [hd] at h
      cases v <;> first | rfl | (simp at h)

theorem Reads.arg1 {R : α → AV} {Q : α → DataW H → Prop} (h : Reads enc P W t R Q) (hR : ∀ a, (R a).cells = [R a]) (hk : oneT (P.underlying t) = true) {r : Reach} {b0 : Nat} {v : Value} {d : DataW H} {p : List MemPlace}
    (hv : Value.okWide P W r b0 t v) (ht : DataW.Trod enc P W 0 (fun _ => true) true t v d p) : ∃ a, Q a d ∧ Rep W.heap.size gh0 W v (R a) ∧ pers (R a) = true ∧ quiet (R a) = true := by
  obtain ⟨fuel, hf⟩ := ht
  rw [val_one hk hv] at hf
  obtain ⟨a, h1, h2, h3⟩ := h.rd _ _ _ hf
  have h4 := (h.cells a).2 (R a) (by rw [hR]; simp)
  simp only [plain, Bool.and_eq_true] at h4
  refine ⟨a, h1, by have := h3 0 (R a) (by rw [hR]; rfl); simpa using this, ?_, h4.2⟩
  have h5 := h4.1
  cases hq : R a <;> rw [hq] at h5 <;> first | rfl | simp [cell1] at h5
theorem Reads.argS {R : α → AV} {Q : α → DataW H → Prop} (h : Reads enc P W t R Q) (hR : ∀ a, ∃ cs, R a = .agg cs) {fs : Array Field} (hk : P.underlying t = some (.struct fs)) {r : Reach} {b0 : Nat} {v : Value} {d : DataW H} {p : List MemPlace}
    (hv : Value.okWide P W r b0 t v) (ht : DataW.Trod enc P W 0 (fun _ => true) true t v d p) : ∃ a, Q a d ∧ Rep W.heap.size gh0 W v (R a) ∧ pers (R a) = true ∧ quiet (R a) = true := by
  obtain ⟨fuel, hf⟩ := ht
  unfold Value.okWide at hv
  rw [hk] at hv
  obtain ⟨vs, rfl, _, _⟩ := hv
  obtain ⟨a, h1, h2, h3⟩ := h.rd _ _ _ hf
  obtain ⟨cs, hcs⟩ := hR a
  have h4 := h.cells a
  rw [hcs] at h4 h3
  simp only [Value.cells, AV.cells] at h2 h3 h4
  refine ⟨a, h1, ?_⟩
  rw [hcs]
  refine ⟨.agg vs cs (by rw [h4.1, ← h2]; simp) h4.2 fun j c hc => ?_, rfl, rfl⟩
  have := h3 j c hc
  simpa [Array.getD_eq_getD_getElem?, List.getD] using this
/-- behind the call the arguments read as they did -/
theorem trodAll_keep (hl : laidOutB P = true) {W' : World} (hb : Below W.heap.size W W') : ∀ {ts : List TypeId} {vs : List Value} {ds : List (DataW H)} {ps : List MemPlace}, (∀ t ∈ ts, P.readableRec t = true ∧ t < P.types.size) →
    DataW.TrodAll enc P W 0 (fun _ => true) true ts vs ds ps → (∀ x ∈ ps, x.block < W.heap.size) → DataW.TrodAll enc P W' 0 (fun b => decide (b < W.heap.size)) true ts vs ds ps
  | [], [], [], ps, _, h, _ => h
  | t :: ts, [], [], ps, _, h, _ => by simp [DataW.TrodAll] at h
  | [], v :: vs, [], ps, _, h, _ => by simp [DataW.TrodAll] at h
  | [], [], d :: ds, ps, _, h, _ => by simp [DataW.TrodAll] at h
  | t :: ts, v :: vs, [], ps, _, h, _ => by simp [DataW.TrodAll] at h
  | t :: ts, [], d :: ds, ps, _, h, _ => by simp [DataW.TrodAll] at h
  | [], v :: vs, d :: ds, ps, _, h, _ => by simp [DataW.TrodAll] at h
  | t :: ts, v :: vs, d :: ds, ps, ht, h, hp => by
    obtain ⟨p, q, h1, h2, rfl⟩ := h
    refine ⟨p, q, Below.trod hl (ht t (by simp)).1 (ht t (by simp)).2 h1 hb fun x hx => hp x (List.mem_append_left _ hx), ?_, rfl⟩
    exact trodAll_keep hl hb (fun t h => ht t (List.mem_cons_of_mem _ h)) h2 fun x hx => hp x (List.mem_append_right _ hx)
theorem laidVars_mem {w : World} : ∀ {laid : List (String × DataW Unit)} {ps : List MemPlace} {n : String} {d : DataW Unit}, DataW.LaidVars P w laid ps → (n, d) ∈ laid →
    ∃ g t cs fuel p, P.globalNamed n = some g ∧ (P.globals[g]?).map (·.type) = some t ∧ w.var? P n = some cs ∧ DataW.trod (fun _ => ()) P w 0 (fun _ => true) false fuel t cs.toList = some (d, p)
  | [], _, _, _, _, hm => by cases hm
  | x :: r, ps, n, d, h, hm => by
    obtain ⟨g, t, cs, fuel, p, q, h1, h2, h3, h4, h5, _⟩ := h
    rcases List.mem_cons.1 hm with e | hm
    · subst e; exact ⟨g, t, cs, fuel, p, h1, h2, h3, h4⟩
    · exact laidVars_mem h5 hm
theorem tabIs_of_mem {name : String} {k : IntKind} {zs : List Int} {laid : List (String × DataW Unit)} {g : Nat} {n : Nat} (hm : (name, Lib.tabData k zs) ∈ laid)
    (hg : P.globalNamed name = some g) (hty : (P.globals[g]?).map (·.type) = some t) (ht : P.underlying t = some (.array n e)) (he : P.underlying e = some (.int k)) (hce : P.cellsOf e = 1) (hct : P.cellsOf t = n)
    (h : laidMet P laid W) : Lib.TabIs P W name k zs := by
  obtain ⟨ps, hl, _⟩ := h
  obtain ⟨g', t', cs, fuel, p, hg', ht', hvar, hd⟩ := laidVars_mem hl hm
  obtain rfl := Option.some.inj (hg.symm.trans hg')
  obtain rfl := Option.some.inj (hty.symm.trans ht')
  unfold Lib.TabIs
  rw [hvar, ← Lib.cells_of_tab ht he hce hct hd]
end
end Go.AI
end
section
/- A statement's arguments, as the evaluation holds them: structs. No program is in sight. -/
namespace Go.AI
open Go.RowKit Go.ChangeShapes Go.Deep Go.Joins
set_option linter.unusedVariables false
section
variable {H : Type} {enc : TypeId × Value → H} {P : Program} {W : World} {t e : TypeId}

theorem cells_sub {W : World} {cs : List Value} {off n : Nat} {l : List AV} (h : ∀ (j : Nat) (c : AV), l[j]? = some c → Rep W.heap.size gh0 W (((cs.drop off).take n).getD j undef) c) (hl : l.length ≤ n) :
    ∀ (j : Nat) (c : AV), l[j]? = some c → Rep W.heap.size gh0 W (cs.getD (off + j) undef) c := by
  intro j c hc
  have := h j c hc
  have hj : j < n := Nat.lt_of_lt_of_le (List.getElem?_eq_some_iff.1 hc).1 hl
  simpa [List.getD, List.getElem?_take, hj, List.getElem?_drop] using this
def st2R {α β : Type} (R0 : α → AV) (R1 : β → AV) (x : α × β) : AV := .agg ((R0 x.1).cells ++ (R1 x.2).cells)
def st2Q {α β : Type} (Q0 : α → DataW H → Prop) (Q1 : β → DataW H → Prop) (x : α × β) (d : DataW H) : Prop := ∃ d0 d1, d = .agg [d0, d1] ∧ Q0 x.1 d0 ∧ Q1 x.2 d1
theorem Reads.struct2 {α β : Type} {R0 : α → AV} {Q0 : α → DataW H → Prop} {R1 : β → AV} {Q1 : β → DataW H → Prop} {f0 f1 : Field} (h0 : Reads enc P W f0.type R0 Q0) (h1 : Reads enc P W f1.type R1 Q1)
    (ht : P.underlying t = some (.struct #[f0, f1])) (o0 : f0.offset = 0) (o1 : f1.offset = P.cellsOf f0.type) (hc : P.cellsOf t = P.cellsOf f0.type + P.cellsOf f1.type) :
    Reads enc P W t (st2R R0 R1) (st2Q Q0 Q1) := by
  refine ⟨fun x => ⟨?_, ?_⟩, by have := h0.pos; omega, fun fuel cs x hx => ?_⟩
  · show ((R0 x.1).cells ++ (R1 x.2).cells).length = P.cellsOf t
    simp only [List.length_append]
    rw [(h0.cells x.1).1, (h1.cells x.2).1, hc]
  · intro c hq
    replace hq : c ∈ (R0 x.1).cells ++ (R1 x.2).cells := hq
    simp only [List.mem_append] at hq
    rcases hq with hq | hq
    · exact (h0.cells x.1).2 c hq
    · exact (h1.cells x.2).2 c hq
  · obtain ⟨y0, y1, n, rfl, hl, t0, t1⟩ := trod_struct2 ht hx
    obtain ⟨a0, q0, l0, r0⟩ := h0.rd _ _ _ t0
    obtain ⟨a1, q1, l1, r1⟩ := h1.rd _ _ _ t1
    have s0 := cells_sub r0 (Nat.le_of_eq (h0.cells a0).1)
    have s1 := cells_sub r1 (Nat.le_of_eq (h1.cells a1).1)
    refine ⟨(a0, a1), ⟨_, _, rfl, q0, q1⟩, hl, fun j c hj => ?_⟩
    replace hj : ((R0 a0).cells ++ ((R1 a1).cells))[j]? = some c := by simpa [st2R, AV.cells] using hj
    rw [List.getElem?_append] at hj
    split at hj
    · have := s0 _ c hj
      rw [o0] at this
      have e : 0 + (j) = j := by have := (h0.cells a0).1; have := (h1.cells a1).1; omega
      rwa [e] at this
    · rename_i hn0
      have := s1 _ c hj
      rw [o1] at this
      have e : (P.cellsOf f0.type) + (j - (R0 a0).cells.length) = j := by have := (h0.cells a0).1; have := (h1.cells a1).1; omega
      rwa [e] at this
def st3R {α β γ : Type} (R0 : α → AV) (R1 : β → AV) (R2 : γ → AV) (x : α × β × γ) : AV := .agg ((R0 x.1).cells ++ (R1 x.2.1).cells ++ (R2 x.2.2).cells)
def st3Q {α β γ : Type} (Q0 : α → DataW H → Prop) (Q1 : β → DataW H → Prop) (Q2 : γ → DataW H → Prop) (x : α × β × γ) (d : DataW H) : Prop := ∃ d0 d1 d2, d = .agg [d0, d1, d2] ∧ Q0 x.1 d0 ∧ Q1 x.2.1 d1 ∧ Q2 x.2.2 d2
theorem Reads.struct3 {α β γ : Type} {R0 : α → AV} {Q0 : α → DataW H → Prop} {R1 : β → AV} {Q1 : β → DataW H → Prop} {R2 : γ → AV} {Q2 : γ → DataW H → Prop} {f0 f1 f2 : Field} (h0 : Reads enc P W f0.type R0 Q0) (h1 : Reads enc P W f1.type R1 Q1) (h2 : Reads enc P W f2.type R2 Q2)
    (ht : P.underlying t = some (.struct #[f0, f1, f2])) (o0 : f0.offset = 0) (o1 : f1.offset = P.cellsOf f0.type) (o2 : f2.offset = P.cellsOf f0.type + P.cellsOf f1.type) (hc : P.cellsOf t = P.cellsOf f0.type + P.cellsOf f1.type + P.cellsOf f2.type) :
    Reads enc P W t (st3R R0 R1 R2) (st3Q Q0 Q1 Q2) := by
  refine ⟨fun x => ⟨?_, ?_⟩, by have := h0.pos; omega, fun fuel cs x hx => ?_⟩
  · show ((R0 x.1).cells ++ (R1 x.2.1).cells ++ (R2 x.2.2).cells).length = P.cellsOf t
    simp only [List.length_append]
    rw [(h0.cells x.1).1, (h1.cells x.2.1).1, (h2.cells x.2.2).1, hc]
  · intro c hq
    replace hq : c ∈ (R0 x.1).cells ++ (R1 x.2.1).cells ++ (R2 x.2.2).cells := hq
    simp only [List.mem_append] at hq
    rcases hq with (hq | hq) | hq
    · exact (h0.cells x.1).2 c hq
    · exact (h1.cells x.2.1).2 c hq
    · exact (h2.cells x.2.2).2 c hq
  · obtain ⟨y0, y1, y2, n, rfl, hl, t0, t1, t2⟩ := trod_struct3 ht hx
    obtain ⟨a0, q0, l0, r0⟩ := h0.rd _ _ _ t0
    obtain ⟨a1, q1, l1, r1⟩ := h1.rd _ _ _ t1
    obtain ⟨a2, q2, l2, r2⟩ := h2.rd _ _ _ t2
    have s0 := cells_sub r0 (Nat.le_of_eq (h0.cells a0).1)
    have s1 := cells_sub r1 (Nat.le_of_eq (h1.cells a1).1)
    have s2 := cells_sub r2 (Nat.le_of_eq (h2.cells a2).1)
    refine ⟨(a0, a1, a2), ⟨_, _, _, rfl, q0, q1, q2⟩, hl, fun j c hj => ?_⟩
    replace hj : ((R0 a0).cells ++ ((R1 a1).cells ++ ((R2 a2).cells)))[j]? = some c := by simpa [st3R, AV.cells] using hj
    rw [List.getElem?_append] at hj
    split at hj
    · have := s0 _ c hj
      rw [o0] at this
      have e : 0 + (j) = j := by have := (h0.cells a0).1; have := (h1.cells a1).1; have := (h2.cells a2).1; omega
      rwa [e] at this
    · rename_i hn0
      rw [List.getElem?_append] at hj
      split at hj
      · have := s1 _ c hj
        rw [o1] at this
        have e : (P.cellsOf f0.type) + (j - (R0 a0).cells.length) = j := by have := (h0.cells a0).1; have := (h1.cells a1).1; have := (h2.cells a2).1; omega
        rwa [e] at this
      · rename_i hn1
        have := s2 _ c hj
        rw [o2] at this
        have e : (P.cellsOf f0.type + P.cellsOf f1.type) + (j - (R0 a0).cells.length - (R1 a1).cells.length) = j := by have := (h0.cells a0).1; have := (h1.cells a1).1; have := (h2.cells a2).1; omega
        rwa [e] at this
def st4R {α β γ δ : Type} (R0 : α → AV) (R1 : β → AV) (R2 : γ → AV) (R3 : δ → AV) (x : α × β × γ × δ) : AV := .agg ((R0 x.1).cells ++ (R1 x.2.1).cells ++ (R2 x.2.2.1).cells ++ (R3 x.2.2.2).cells)
def st4Q {α β γ δ : Type} (Q0 : α → DataW H → Prop) (Q1 : β → DataW H → Prop) (Q2 : γ → DataW H → Prop) (Q3 : δ → DataW H → Prop) (x : α × β × γ × δ) (d : DataW H) : Prop := ∃ d0 d1 d2 d3, d = .agg [d0, d1, d2, d3] ∧ Q0 x.1 d0 ∧ Q1 x.2.1 d1 ∧ Q2 x.2.2.1 d2 ∧ Q3 x.2.2.2 d3
end
end Go.AI
end
