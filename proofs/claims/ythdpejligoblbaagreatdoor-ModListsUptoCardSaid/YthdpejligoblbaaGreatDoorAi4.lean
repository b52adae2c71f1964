/- Part 4 of a proof: a Go function is evaluated on abstract values (texts PlOrd .. PlSwap); no conditions beyond those of each theorem. -/
import Derived.Test.YthdpejligoblbaaGreatDoorAi3
import Derived.Lib.Bytealg
import GoSem.Op.String
import Derived.Lib.ItoaNum
set_option linter.all false
set_option linter.unusedVariables false
set_option linter.unusedSimpArgs false
set_option linter.unnecessarySimpa false
section
/- Orders: plain. No program is in sight. -/
namespace Go.AI

/-- a comparison that is an order, and tells apart -/
structure TO {α : Type} (c : α → α → Int) : Prop where
  sgn : ∀ a b, c a b = -1 ∨ c a b = 0 ∨ c a b = 1
  flip : ∀ a b, c b a = - c a b
  trans : ∀ a b d, c a b ≤ 0 → c b d ≤ 0 → c a d ≤ 0
  eq : ∀ a b, c a b = 0 → a = b

namespace TO
variable {α β : Type} {c : α → α → Int} {d : β → β → Int}
theorem refl (h : TO c) (a : α) : c a a = 0 := by have := h.flip a a; omega
theorem eq_iff (h : TO c) (a b : α) : c a b = 0 ↔ a = b := ⟨h.eq a b, fun e => by subst e; exact h.refl a⟩
theorem lt_le (h : TO c) {a b e : α} (h1 : c a b < 0) (h2 : c b e ≤ 0) : c a e < 0 := by
  have h3 := h.trans a b e (by omega) h2
  rcases Int.lt_or_eq_of_le h3 with q | q
  · exact q
  · have := h.eq _ _ q; subst this
    have := h.flip a b; omega
theorem le_lt (h : TO c) {a b e : α} (h1 : c a b ≤ 0) (h2 : c b e < 0) : c a e < 0 := by
  have h3 := h.trans a b e h1 (by omega)
  rcases Int.lt_or_eq_of_le h3 with q | q
  · exact q
  · have := h.eq _ _ q; subst this
    have := h.flip a b; omega
theorem comap (h : TO c) (f : β → α) (hf : ∀ x y, f x = f y → x = y) : TO fun x y => c (f x) (f y) :=
  ⟨fun _ _ => h.sgn _ _, fun _ _ => h.flip _ _, fun _ _ _ => h.trans _ _ _, fun _ _ e => hf _ _ (h.eq _ _ e)⟩
end TO

def orI (x y : Int) : Int := if x = 0 then y else x
theorem TO.prod {α β : Type} {c : α → α → Int} {d : β → β → Int} (h : TO c) (k : TO d) : TO fun (x y : α × β) => orI (c x.1 y.1) (d x.2 y.2) := by
  refine ⟨fun a b => ?_, fun a b => ?_, fun a b e => ?_, fun a b => ?_⟩
  · unfold orI; split; exact k.sgn _ _; exact h.sgn _ _
  · unfold orI
    have := h.flip a.1 b.1; have := k.flip a.2 b.2
    split <;> split <;> omega
  · intro h1 h2
    unfold orI at h1 h2 ⊢
    by_cases q1 : c a.1 b.1 = 0
    · rw [if_pos q1] at h1
      have e1 := h.eq _ _ q1
      by_cases q2 : c b.1 e.1 = 0
      · rw [if_pos q2] at h2
        have e2 := h.eq _ _ q2
        rw [e1, e2, h.refl, if_pos rfl]
        exact k.trans _ _ _ h1 h2
      · rw [if_neg q2] at h2
        rw [e1, if_neg q2]; exact h2
    · rw [if_neg q1] at h1
      by_cases q2 : c b.1 e.1 = 0
      · have e2 := h.eq _ _ q2
        rw [← e2, if_neg q1]; exact h1
      · rw [if_neg q2] at h2
        have := h.lt_le (a := a.1) (b := b.1) (e := e.1) (by omega) h2
        rw [if_neg (by omega)]; omega
  · intro e
    unfold orI at e
    split at e
    · rename_i q; exact Prod.ext (h.eq _ _ q) (k.eq _ _ e)
    · rename_i q; exact absurd e q

def natC (a b : Nat) : Int := if a < b then -1 else if b < a then 1 else 0
theorem TO.nat : TO natC := by
  refine ⟨fun a b => ?_, fun a b => ?_, fun a b e => ?_, fun a b => ?_⟩ <;> unfold natC <;> (repeat' split) <;> omega
def u8C (a b : UInt8) : Int := natC a.toNat b.toNat
theorem TO.u8 : TO u8C := TO.nat.comap UInt8.toNat fun _ _ e => UInt8.toNat_inj.1 e

/-- lists, by their first unlike members; a shorter one ahead -/
def lexC {α : Type} (c : α → α → Int) : List α → List α → Int
  | [], [] => 0
  | [], _ :: _ => -1
  | _ :: _, [] => 1
  | a :: x, b :: y => orI (c a b) (lexC c x y)
theorem TO.lex {α : Type} {c : α → α → Int} (h : TO c) : TO (lexC c) := by
  refine ⟨fun a => ?_, fun a => ?_, fun a => ?_, fun a => ?_⟩
  · induction a with
    | nil => intro b; cases b <;> simp [lexC]
    | cons a x ih =>
      intro b
      cases b with
      | nil => simp [lexC]
      | cons b y => simp only [lexC, orI]; split; exact ih y; exact h.sgn _ _
  · induction a with
    | nil => intro b; cases b <;> simp [lexC]
    | cons a x ih =>
      intro b
      cases b with
      | nil => simp [lexC]
      | cons b y =>
        simp only [lexC, orI]
        have := ih y; have := h.flip a b
        split <;> split <;> omega
  · induction a with
    | nil => intro b e h1 h2; cases b <;> cases e <;> simp [lexC] at *
    | cons a x ih =>
      intro b e h1 h2
      cases b with
      | nil => simp [lexC] at h1
      | cons b y =>
        cases e with
        | nil => simp [lexC] at h2
        | cons e z =>
          simp only [lexC, orI] at h1 h2 ⊢
          by_cases q1 : c a b = 0
          · rw [if_pos q1] at h1
            have e1 := h.eq _ _ q1; subst e1
            split at h2
            · rename_i q2; rw [if_pos q2]; exact ih _ _ h1 h2
            · rename_i q2; rw [if_neg q2]; exact h2
          · rw [if_neg q1] at h1
            by_cases q2 : c b e = 0
            · have e2 := h.eq _ _ q2; subst e2; rw [if_neg q1]; exact h1
            · rw [if_neg q2] at h2
              have := h.lt_le (a := a) (b := b) (e := e) (by omega) h2
              rw [if_neg (by omega)]; omega
  · induction a with
    | nil => intro b e; cases b with
      | nil => rfl
      | cons => simp [lexC] at e
    | cons a x ih =>
      intro b e
      cases b with
      | nil => simp [lexC] at e
      | cons b y =>
        simp only [lexC, orI] at e
        split at e
        · rename_i q; rw [h.eq _ _ q, ih _ e]
        · rename_i q; exact absurd e q
/-- texts -/
def bytesC : List UInt8 → List UInt8 → Int := lexC u8C
theorem TO.bytes : TO bytesC := TO.u8.lex
end Go.AI
end
section
/- Texts: places of a byte, pieces. Plain: no program is in sight. -/
namespace Go.AI

/-- the first place of a byte -/
def ix (c : UInt8) : List UInt8 → Option Nat
  | [] => none
  | b :: r => if b = c then some 0 else (ix c r).map (· + 1)
def ixI (c : UInt8) (l : List UInt8) : Int := match ix c l with
  | some n => n
  | none => -1
theorem indexByte_eq (l : List UInt8) (c : UInt8) : Lib.indexByte l c = ixI c l := by
  induction l with
  | nil => rfl
  | cons b r ih =>
    simp only [Lib.indexByte, ih, ixI, ix, beq_iff_eq]
    split
    · rfl
    · cases ix c r with
      | none => rfl
      | some n => simp only [Option.map_some]; rw [if_neg (by omega)]; omega
theorem ix_none {c : UInt8} {l : List UInt8} : ix c l = none ↔ c ∉ l := by
  induction l with
  | nil => simp [ix]
  | cons b r ih =>
    simp only [ix, List.mem_cons, not_or]
    split
    · rename_i h; simp [h]
    · rename_i h
      rw [Option.map_eq_none_iff, ih]
      exact ⟨fun q => ⟨fun e => h e.symm, q⟩, fun q => q.2⟩
theorem ix_some {c : UInt8} {l : List UInt8} {n : Nat} (h : ix c l = some n) : n < l.length ∧ l[n]? = some c ∧ c ∉ l.take n ∧ l = l.take n ++ c :: l.drop (n + 1) := by
  induction l generalizing n with
  | nil => simp [ix] at h
  | cons b r ih =>
    simp only [ix] at h
    split at h
    · rename_i e; subst e; injection h with h; subst h; simp
    · rename_i e
      obtain ⟨m, hm, rfl⟩ := Option.map_eq_some_iff.1 h
      obtain ⟨h1, h2, h3, h4⟩ := ih hm
      refine ⟨by simp; omega, by simpa using h2, ?_, ?_⟩
      · simp only [List.take_succ_cons, List.mem_cons, not_or]; exact ⟨fun q => e q.symm, h3⟩
      · simp only [List.take_succ_cons, List.drop_succ_cons, List.cons_append]; rw [← h4]
theorem ix_app {c : UInt8} {x y : List UInt8} (h : c ∉ x) : ix c (x ++ c :: y) = some x.length := by
  induction x with
  | nil => simp [ix]
  | cons b r ih =>
    simp only [List.mem_cons, not_or] at h
    simp only [List.cons_append, ix, if_neg (fun q => h.1 (Eq.symm q)), ih h.2, Option.map_some, List.length_cons]

/-- before and behind the first place -/
def cutB (c : UInt8) (l : List UInt8) : List UInt8 × List UInt8 × Bool := match ix c l with
  | some n => (l.take n, l.drop (n + 1), true)
  | none => (l, [], false)
/-- the pieces between -/
def splitB (c : UInt8) : List UInt8 → List (List UInt8)
  | [] => [[]]
  | b :: r => if b = c then [] :: splitB c r else match splitB c r with
    | [] => [[b]]
    | h :: t => (b :: h) :: t
theorem splitB_ne (c : UInt8) (l : List UInt8) : splitB c l ≠ [] := by
  cases l with
  | nil => simp [splitB]
  | cons b r => simp only [splitB]; split; simp; split <;> simp
theorem splitB_not {c : UInt8} {l : List UInt8} (h : c ∉ l) : splitB c l = [l] := by
  induction l with
  | nil => rfl
  | cons b r ih =>
    simp only [List.mem_cons, not_or] at h
    simp only [splitB, if_neg (fun q => h.1 (Eq.symm q)), ih h.2]
theorem splitB_app {c : UInt8} {x y : List UInt8} (h : c ∉ x) : splitB c (x ++ c :: y) = x :: splitB c y := by
  induction x with
  | nil => simp [splitB]
  | cons b r ih =>
    simp only [List.mem_cons, not_or] at h
    simp only [List.cons_append, splitB, if_neg (fun q => h.1 (Eq.symm q)), ih h.2]
theorem splitB_ix {c : UInt8} {l : List UInt8} {n : Nat} (h : ix c l = some n) : splitB c l = l.take n :: splitB c (l.drop (n + 1)) := by
  obtain ⟨h1, h2, h3, h4⟩ := ix_some h
  conv => lhs; rw [h4]
  exact splitB_app h3
theorem splitB_none {c : UInt8} {l : List UInt8} (h : ix c l = none) : splitB c l = [l] := splitB_not (ix_none.1 h)
theorem splitB_len (c : UInt8) (l : List UInt8) : (splitB c l).length = Lib.countByte l c + 1 := by
  induction l with
  | nil => rfl
  | cons b r ih =>
    simp only [splitB, Lib.countByte] at ih ⊢
    by_cases e : b = c
    · subst e; simp [ih]
    · rw [if_neg e, List.count_cons_of_ne e, ← ih]
      have := splitB_ne c r
      split
      · rename_i q; exact absurd q this
      · rename_i q; rw [q]; simp
theorem splitB_mem {c : UInt8} {l x : List UInt8} (h : x ∈ splitB c l) : c ∉ x := by
  induction l generalizing x with
  | nil => simp [splitB] at h; subst h; simp
  | cons b r ih =>
    simp only [splitB] at h
    split at h
    · rcases List.mem_cons.1 h with rfl | h
      · simp
      · exact ih h
    · rename_i e
      split at h
      · rename_i q; exact absurd q (splitB_ne _ _)
      · rename_i h0 t q
        rcases List.mem_cons.1 h with rfl | h
        · simp only [List.mem_cons, not_or]; exact ⟨fun q => e q.symm, ih (q ▸ List.mem_cons_self)⟩
        · exact ih (q ▸ List.mem_cons_of_mem _ h)
def joinB (c : UInt8) : List (List UInt8) → List UInt8
  | [] => []
  | [x] => x
  | x :: r => x ++ c :: joinB c r
theorem joinB_cons (c : UInt8) (x : List UInt8) {r : List (List UInt8)} (h : r ≠ []) : joinB c (x :: r) = x ++ c :: joinB c r := by
  cases r with
  | nil => exact absurd rfl h
  | cons => rfl
theorem join_split (c : UInt8) (l : List UInt8) : joinB c (splitB c l) = l := by
  induction l with
  | nil => rfl
  | cons b r ih =>
    simp only [splitB]
    split
    · rename_i e; rw [joinB_cons _ _ (splitB_ne _ _), ih, e]; rfl
    · split
      · rename_i q; exact absurd q (splitB_ne _ _)
      · rename_i h t q
        rw [q] at ih
        cases t with
        | nil => simp only [joinB] at ih ⊢; rw [ih]
        | cons y z => rw [joinB_cons _ _ (by simp)] at ih ⊢; rw [← ih]; rfl
theorem split_join {c : UInt8} {l : List (List UInt8)} (h0 : l ≠ []) (h : ∀ x ∈ l, c ∉ x) : splitB c (joinB c l) = l := by
  induction l with
  | nil => exact absurd rfl h0
  | cons x r ih =>
    cases r with
    | nil => exact splitB_not (h x (by simp))
    | cons y z =>
      rw [joinB_cons _ _ (by simp), splitB_app (h x (by simp)), ih (by simp) fun w hw => h w (List.mem_cons_of_mem _ hw)]

/-- the last place of a byte -/
def lix (c : UInt8) : List UInt8 → Option Nat
  | [] => none
  | b :: r => match lix c r with
    | some n => some (n + 1)
    | none => if b = c then some 0 else none
def lixI (c : UInt8) (l : List UInt8) : Int := match lix c l with
  | some n => n
  | none => -1
theorem lix_snoc (c b : UInt8) (l : List UInt8) : lix c (l ++ [b]) = if b = c then some l.length else lix c l := by
  induction l with
  | nil => simp [lix]
  | cons a r ih =>
    simp only [List.cons_append, lix, ih]
    by_cases e : b = c
    · simp [e]
    · simp [e]
theorem lix_some {c : UInt8} {l : List UInt8} {n : Nat} (h : lix c l = some n) : n < l.length ∧ l[n]? = some c ∧ c ∉ l.drop (n + 1) ∧ l = l.take n ++ c :: l.drop (n + 1) := by
  induction l generalizing n with
  | nil => simp [lix] at h
  | cons b r ih =>
    simp only [lix] at h
    split at h
    · rename_i m hm
      injection h with h; subst h
      obtain ⟨h1, h2, h3, h4⟩ := ih hm
      refine ⟨by simp; omega, by simpa using h2, by simpa using h3, ?_⟩
      simp only [List.take_succ_cons, List.drop_succ_cons, List.cons_append]; rw [← h4]
    · rename_i hm
      split at h
      · rename_i e; injection h with h; subst h; subst e
        have : ∀ {l : List UInt8}, lix b l = none → b ∉ l := by
          intro l
          induction l with
          | nil => simp
          | cons a s ih =>
            simp only [lix]
            split
            · intro q; cases q
            · rename_i q; split
              · intro q; cases q
              · rename_i e; intro _; simp only [List.mem_cons, not_or]; exact ⟨fun w => e w.symm, ih q⟩
        simp [this hm]
      · cases h
theorem lix_none {c : UInt8} {l : List UInt8} : lix c l = none ↔ c ∉ l := by
  induction l with
  | nil => simp [lix]
  | cons b r ih =>
    simp only [lix, List.mem_cons, not_or]
    cases hq : lix c r with
    | none =>
      rw [hq] at ih
      simp only [true_iff] at ih
      by_cases e : b = c
      · simp [e]
      · simp only [if_neg e, true_iff]; exact ⟨fun w => e w.symm, ih⟩
    | some n =>
      rw [hq] at ih
      simp only [reduceCtorEq, false_iff] at ih ⊢
      exact fun q => ih q.2
/-- the last piece stands behind the last place -/
theorem splitB_last (c : UInt8) (l : List UInt8) : (splitB c l).getLast (splitB_ne c l) = match lix c l with
    | some n => l.drop (n + 1)
    | none => l := by
  induction l with
  | nil => rfl
  | cons b r ih =>
    have hne := splitB_ne c r
    by_cases e : b = c
    · have h1 : splitB c (b :: r) = [] :: splitB c r := by simp [splitB, e]
      have h2 : (splitB c (b :: r)).getLast (splitB_ne c _) = (splitB c r).getLast hne := by
        simp only [h1]; rw [List.getLast_cons hne]
      rw [h2, ih]
      simp only [lix, e, if_true]
      cases lix c r <;> simp
    · obtain ⟨h, t, q⟩ : ∃ h t, splitB c r = h :: t := by cases hq : splitB c r with
        | nil => exact absurd hq hne
        | cons h t => exact ⟨h, t, rfl⟩
      have h1 : splitB c (b :: r) = (b :: h) :: t := by simp [splitB, e, q]
      simp only [q] at ih
      simp only [h1, lix, if_neg e]
      cases t with
      | nil =>
        simp only [List.getLast_singleton] at ih ⊢
        cases hl : lix c r with
        | none => rw [hl] at ih; simp only at ih ⊢; rw [ih]
        | some n =>
          rw [hl] at ih; simp only at ih
          have h3 := lix_some hl
          have h4 : c ∈ r := List.mem_of_getElem? h3.2.1
          have h5 : Lib.countByte r c + 1 = 1 := by rw [← splitB_len, q]; rfl
          have h6 := List.count_pos_iff.2 h4
          unfold Lib.countByte at h5; omega
      | cons y z =>
        rw [List.getLast_cons (by simp)] at ih ⊢
        rw [ih]
        cases hl : lix c r with
        | none =>
          rw [hl] at ih
          have h4 := splitB_not (lix_none.1 hl)
          rw [q] at h4; simp at h4
        | some n => simp

/-! The order of texts. -/
theorem compareBytes_eq (a b : List UInt8) : Lib.compareBytes a b = bytesC a b := by
  induction a generalizing b with
  | nil => cases b <;> rfl
  | cons x a ih =>
    cases b with
    | nil => rfl
    | cons y b =>
      simp only [Lib.compareBytes, ih, bytesC, lexC, orI, u8C, natC, UInt8.lt_iff_toNat_lt]
      by_cases h1 : x.toNat < y.toNat
      · simp [h1]
      · by_cases h2 : y.toNat < x.toNat
        · simp [h1, h2]
        · simp [h1, h2]
theorem bytesLess_eq (a b : List UInt8) : Op.bytesLess a b = decide (bytesC a b < 0) := by
  induction a generalizing b with
  | nil => cases b <;> simp [Op.bytesLess, bytesC, lexC]
  | cons x a ih =>
    cases b with
    | nil => simp [Op.bytesLess, bytesC, lexC]
    | cons y b =>
      simp only [Op.bytesLess, ih, bytesC, lexC, orI, u8C, natC, UInt8.lt_iff_toNat_lt, beq_iff_eq]
      by_cases h1 : x.toNat < y.toNat
      · simp [h1]
      · by_cases h2 : y.toNat < x.toNat
        · have : ¬ x = y := by rintro rfl; omega
          simp [h1, h2, this]
        · have : x = y := UInt8.toNat_inj.1 (by omega)
          subst this
          simp only [UInt8.lt_irrefl, Nat.lt_irrefl, if_false, decide_false, Bool.false_or, true_and, if_true, decide_true, Bool.true_and, beq_self_eq_true]
          rfl
end Go.AI
namespace Go.AI
theorem splitB_le {c : UInt8} {l x : List UInt8} (h : x ∈ splitB c l) : x.length ≤ l.length := by
  induction l generalizing x with
  | nil => simp [splitB] at h; subst h; simp
  | cons b r ih =>
    simp only [splitB] at h
    split at h
    · rcases List.mem_cons.1 h with rfl | h
      · simp
      · have := ih h; simp; omega
    · split at h
      · rename_i q; exact absurd q (splitB_ne _ _)
      · rename_i h0 t q
        rcases List.mem_cons.1 h with rfl | h
        · have := ih (x := h0) (q ▸ List.mem_cons_self); simp; omega
        · have := ih (q ▸ List.mem_cons_of_mem _ h); simp; omega
theorem splitB_many (c : UInt8) (l : List UInt8) : (splitB c l).length ≤ l.length + 1 := by
  rw [splitB_len]; have : Lib.countByte l c ≤ l.length := List.count_le_length; omega
theorem cutB_le (c : UInt8) (l : List UInt8) : (cutB c l).1.length ≤ l.length ∧ (cutB c l).2.1.length ≤ l.length := by
  unfold cutB
  split
  · simp; omega
  · simp
end Go.AI
end
section
/- Versions: plain. No program is in sight. -/
namespace Go.AI

def isD (c : UInt8) : Bool := decide (48 ≤ c.toNat ∧ c.toNat ≤ 57)
def isU (c : UInt8) : Bool := decide (65 ≤ c.toNat ∧ c.toNat ≤ 90)
def isL (c : UInt8) : Bool := decide (97 ≤ c.toNat ∧ c.toNat ≤ 122)
def isH (c : UInt8) : Bool := decide (128 ≤ c.toNat)
def allB (p : UInt8 → Bool) (s : List UInt8) : Bool := s.all p && !s.isEmpty
def plainB (s : List UInt8) : Bool := match s with
  | [] => false
  | c :: r => c != 48 || r.isEmpty
def valB (s : List UInt8) : Nat := s.foldl (fun n c => n * 10 + (c.toNat - 48)) 0
def numOk (s : List UInt8) : Bool := allB isD s && plainB s && decide (s.length ≤ 9)
def numB (s : List UInt8) : Option Nat := if numOk s then some (valB s) else none
def wordB (others : List UInt8) (c : UInt8) : Bool := isD c || isU c || isL c || decide (c ∈ others)
def idB (s : List UInt8) : Bool := allB (wordB [45]) s && !(allB isD s && !plainB s)
def idsB (p : List UInt8) : Bool := (splitB 46 p).all idB
structure Ver where
  ma : Nat
  mi : Nat
  pa : Nat
  pre : List UInt8
  deriving DecidableEq
def coreOf (r : List UInt8) : Option (Nat × Nat × Nat) := match splitB 46 r with
  | [a, b, c] => match numB a, numB b, numB c with
    | some x, some y, some z => some (x, y, z)
    | _, _, _ => none
  | _ => none
def readB (s : List UInt8) : Option Ver := if 60 < s.length then none else match s with
  | [] => none
  | c :: r => if c ≠ 118 then none else match coreOf (cutB 45 r).1 with
    | none => none
    | some (x, y, z) => if (cutB 45 r).2.2 && !idsB (cutB 45 r).2.1 then none else some ⟨x, y, z, (cutB 45 r).2.1⟩

theorem snocInd {α : Type} {P : List α → Prop} (h0 : P []) (h1 : ∀ l c, P l → P (l ++ [c])) (l : List α) : P l := by
  have : ∀ n (l : List α), l.length = n → P l := by
    intro n
    induction n with
    | zero => intro l h; rw [List.length_eq_zero_iff.1 h]; exact h0
    | succ n ih =>
      intro l h
      have hne : l ≠ [] := by rintro rfl; simp at h
      rw [← List.dropLast_concat_getLast hne]
      exact h1 _ _ (ih _ (by simp [h]))
  exact this _ l rfl
/-! numbers and their digits -/
theorem valB_snoc (l : List UInt8) (c : UInt8) : valB (l ++ [c]) = valB l * 10 + (c.toNat - 48) := by simp [valB, List.foldl_append]
theorem valB_lt (s : List UInt8) (h : s.all isD = true) : valB s < 10 ^ s.length := by
  revert h
  refine snocInd (P := fun s => s.all isD = true → valB s < 10 ^ s.length) ?_ ?_ s
  · intro h; simp [valB]
  · intro l c ih h
    rw [List.all_append, Bool.and_eq_true] at h
    have := ih h.1
    have h2 := h.2
    simp [isD] at h2
    rw [valB_snoc, List.length_append, List.length_singleton, Nat.pow_succ]; omega
theorem numB_lt {s : List UInt8} {n : Nat} (h : numB s = some n) : n < 1000000000 := by
  unfold numB at h
  split at h
  · rename_i q
    injection h with h
    simp [numOk, allB] at q
    have := valB_lt s (List.all_eq_true.2 q.1.1.1)
    have h3 : 10 ^ s.length ≤ 10 ^ 9 := Nat.pow_le_pow_right (by omega) q.2
    omega
  · cases h
theorem dig_c {c : UInt8} (h : isD c = true) : UInt8.ofNat (48 + (c.toNat - 48)) = c := by
  simp [isD] at h
  rw [show 48 + (c.toNat - 48) = c.toNat by omega]; simp
/-- digits without 0 ahead are what is printed of their number -/
theorem digits_val (s : List UInt8) (h : s.all isD = true) (hp : plainB s = true) : Lib.decDigits (valB s) = s := by
  revert h hp
  refine snocInd (P := fun s => s.all isD = true → plainB s = true → Lib.decDigits (valB s) = s) ?_ ?_ s
  · intro h hp; simp [plainB] at hp
  · intro l c ih h hp
    rw [List.all_append, Bool.and_eq_true] at h
    have hc : isD c = true := by simpa using h.2
    have hd : c.toNat - 48 < 10 := by simp [isD] at hc; omega
    rw [valB_snoc]
    cases l with
    | nil =>
      rw [Lib.decDigits, dif_pos (by simp [valB]; omega)]
      simp [valB, dig_c hc]
    | cons a r =>
      have hp' : plainB (a :: r) = true ∧ a ≠ 48 := by
        simp [plainB] at hp ⊢; exact ⟨.inl hp, hp⟩
      have hl := ih h.1 hp'.1
      have h0 : valB (a :: r) ≠ 0 := by
        intro e
        rw [e, Lib.decDigits, dif_pos (by omega)] at hl
        simp at hl
        exact hp'.2 hl.1.symm
      rw [Lib.decDigits, dif_neg (by omega), show (valB (a :: r) * 10 + (c.toNat - 48)) / 10 = valB (a :: r) by omega, show (valB (a :: r) * 10 + (c.toNat - 48)) % 10 = c.toNat - 48 by omega, hl, dig_c hc]
theorem numB_digits {s : List UInt8} {n : Nat} (h : numB s = some n) : Lib.decDigits n = s := by
  unfold numB at h
  split at h
  · rename_i q
    injection h with h
    subst h
    simp only [numOk, allB, Bool.and_eq_true] at q
    exact digits_val s q.1.1.1 q.1.2
  · cases h

/-! the text of a version -/
def verT (v : Ver) : List UInt8 := 118 :: (Lib.decDigits v.ma ++ 46 :: (Lib.decDigits v.mi ++ 46 :: Lib.decDigits v.pa)) ++ (if v.pre = [] then [] else 45 :: v.pre)
theorem coreOf_text {r : List UInt8} {x y z : Nat} (h : coreOf r = some (x, y, z)) : r = Lib.decDigits x ++ 46 :: (Lib.decDigits y ++ 46 :: Lib.decDigits z) := by
  unfold coreOf at h
  split at h
  · rename_i a b c hs
    split at h
    · rename_i x' y' z' ha hb hc
      injection h with h
      simp only [Prod.mk.injEq] at h
      obtain ⟨rfl, rfl, rfl⟩ := h
      rw [numB_digits ha, numB_digits hb, numB_digits hc, ← join_split 46 r, hs]
      rfl
    · cases h
  · cases h
theorem coreOf_lt {r : List UInt8} {x y z : Nat} (h : coreOf r = some (x, y, z)) : x < 1000000000 ∧ y < 1000000000 ∧ z < 1000000000 := by
  unfold coreOf at h
  split at h
  · split at h
    · rename_i x' y' z' ha hb hc
      injection h with h
      simp only [Prod.mk.injEq] at h
      obtain ⟨rfl, rfl, rfl⟩ := h
      exact ⟨numB_lt ha, numB_lt hb, numB_lt hc⟩
    · cases h
  · cases h
theorem idsB_ne {p : List UInt8} (h : idsB p = true) : p ≠ [] := by
  rintro rfl
  simp [idsB, splitB, idB, allB] at h
theorem cutB_text (c : UInt8) (l : List UInt8) : ((cutB c l).2.2 = true ∧ l = (cutB c l).1 ++ c :: (cutB c l).2.1) ∨ ((cutB c l).2.2 = false ∧ (cutB c l).1 = l ∧ (cutB c l).2.1 = []) := by
  unfold cutB
  cases h : ix c l with
  | none => exact .inr ⟨rfl, rfl, rfl⟩
  | some n => exact .inl ⟨rfl, (ix_some h).2.2.2⟩
/-- what a version says -/
structure ReadAs (s : List UInt8) (v : Ver) : Prop where
  text : s = verT v
  ma : v.ma < 1000000000
  mi : v.mi < 1000000000
  pa : v.pa < 1000000000
  len : s.length ≤ 60
  pre : v.pre = [] ∨ idsB v.pre = true
theorem readB_some {s : List UInt8} {v : Ver} (h : readB s = some v) : ReadAs s v := by
  unfold readB at h
  split at h
  · cases h
  · rename_i hl
    split at h
    · cases h
    · rename_i c r
      split at h
      · cases h
      · rename_i hc
        have hc : c = 118 := by simpa using hc
        subst hc
        split at h
        · cases h
        · rename_i x y z hcore
          split at h
          · cases h
          · rename_i hids
            injection h with h
            subst h
            have ht := coreOf_text hcore
            have hlt := coreOf_lt hcore
            refine ⟨?_, hlt.1, hlt.2.1, hlt.2.2, by omega, ?_⟩
            · rcases cutB_text 45 r with ⟨h1, h2⟩ | ⟨h1, h2, h3⟩
              · have hp : (cutB 45 r).2.1 ≠ [] := by
                  rw [h1] at hids
                  simp at hids
                  exact idsB_ne hids
                unfold verT
                simp only [if_neg hp]
                rw [← ht]
                conv => lhs; rw [h2]
                simp
              · unfold verT
                simp only [h3, if_true, List.append_nil]
                rw [← ht, h2]
            · rcases cutB_text 45 r with ⟨h1, h2⟩ | ⟨h1, h2, h3⟩
              · rw [h1] at hids; simp at hids; exact .inr hids
              · exact .inl h3
theorem readB_inj {s t : List UInt8} {v : Ver} (h : readB s = some v) (k : readB t = some v) : s = t := (readB_some h).text.trans (readB_some k).text.symm

/-! the order of versions -/
def idC (a b : List UInt8) : Int := if allB isD a = true then (if allB isD b = true then orI (natC a.length b.length) (bytesC a b) else -1) else if allB isD b = true then 1 else bytesC a b
def presC (a b : List UInt8) : Int := if a = [] ∨ b = [] then natC (min b.length 1) (min a.length 1) else lexC idC (splitB 46 a) (splitB 46 b)
def verC (x y : Ver) : Int := orI (natC x.ma y.ma) (orI (natC x.mi y.mi) (orI (natC x.pa y.pa) (presC x.pre y.pre)))
def cmpB (a b : List UInt8) : Int := match readB a, readB b with
  | none, none => bytesC a b
  | none, some _ => -1
  | some _, none => 1
  | some x, some y => verC x y
/-- the sum of two orders -/
def sumC {α β : Type} (c : α → α → Int) (d : β → β → Int) : α ⊕ β → α ⊕ β → Int
  | .inl a, .inl b => c a b
  | .inl _, .inr _ => -1
  | .inr _, .inl _ => 1
  | .inr a, .inr b => d a b
theorem TO.sum {α β : Type} {c : α → α → Int} {d : β → β → Int} (h : TO c) (k : TO d) : TO (sumC c d) := by
  refine ⟨fun a b => ?_, fun a b => ?_, fun a b e => ?_, fun a b => ?_⟩
  · cases a <;> cases b <;> first | exact h.sgn _ _ | exact k.sgn _ _ | exact .inl rfl | exact .inr (.inr rfl)
  · cases a <;> cases b <;> first | exact h.flip _ _ | exact k.flip _ _ | rfl
  · cases a <;> cases b <;> cases e <;> simp only [sumC] <;> first | exact h.trans _ _ _ | exact k.trans _ _ _ | (intros; omega)
  · cases a <;> cases b <;> intro e <;> first | rw [h.eq _ _ e] | rw [k.eq _ _ e] | (simp [sumC] at e)
def idKey (a : List UInt8) : (Nat × List UInt8) ⊕ List UInt8 := if allB isD a = true then .inl (a.length, a) else .inr a
theorem TO.id : TO idC := by
  have h := ((TO.nat.prod TO.bytes).sum TO.bytes).comap idKey (by
    intro x y e
    unfold idKey at e
    split at e <;> split at e
    · injection e with e; injection e
    · cases e
    · cases e
    · injection e)
  have : idC = fun x y => sumC (fun (x y : Nat × List UInt8) => orI (natC x.1 y.1) (bytesC x.2 y.2)) bytesC (idKey x) (idKey y) := by
    funext x y
    unfold idC idKey
    split <;> split <;> rfl
  rw [this]; exact h
theorem natC_lt {a b : Nat} (h : a < b) : natC a b = -1 := by simp [natC, h]
theorem TO.pres : TO presC := by
  have h := (TO.id.lex.sum TO.nat).comap (fun p : List UInt8 => if p = [] then Sum.inr 0 else Sum.inl (splitB 46 p)) (by
    intro x y e
    split at e <;> split at e
    · rename_i h1 h2; rw [h1, h2]
    · cases e
    · cases e
    · injection e with e; rw [← join_split 46 x, e, join_split])
  have : presC = fun x y => sumC (lexC idC) natC ((fun p : List UInt8 => if p = [] then Sum.inr 0 else Sum.inl (splitB 46 p)) x) ((fun p : List UInt8 => if p = [] then Sum.inr 0 else Sum.inl (splitB 46 p)) y) := by
    funext x y
    unfold presC
    have hm : ∀ l : List UInt8, l ≠ [] → min l.length 1 = 1 := fun l hl => by cases l with
      | nil => exact absurd rfl hl
      | cons a r => simp
    by_cases h1 : x = [] <;> by_cases h2 : y = []
    · simp [h1, h2, sumC]
    · simp [h1, h2, sumC, natC, hm y h2]
    · simp [h1, h2, sumC, natC, hm x h1]
    · simp [h1, h2, sumC]
  rw [this]; exact h
theorem TO.ver : TO verC := by
  have h := (TO.nat.prod (TO.nat.prod (TO.nat.prod TO.pres))).comap (fun v : Ver => (v.ma, v.mi, v.pa, v.pre)) (by
    rintro ⟨⟩ ⟨⟩ e; simp only [Prod.mk.injEq] at e; obtain ⟨rfl, rfl, rfl, rfl⟩ := e; rfl)
  exact h
theorem TO.cmp : TO cmpB := by
  have h := (TO.bytes.sum TO.ver).comap (fun s : List UInt8 => match readB s with
    | none => Sum.inl s
    | some v => Sum.inr v) (by
    intro x y e
    split at e <;> split at e
    · injection e
    · cases e
    · cases e
    · rename_i h1 _ _ h2; injection e with e; subst e; exact readB_inj h1 h2)
  have : cmpB = fun x y => sumC bytesC verC (match readB x with
    | none => Sum.inl x
    | some v => Sum.inr v) (match readB y with
    | none => Sum.inl y
    | some v => Sum.inr v) := by
    funext x y
    unfold cmpB
    cases readB x <;> cases readB y <;> rfl
  rw [this]; exact h
end Go.AI
namespace Go.AI
/-! Pseudo-versions. -/
theorem decDigits_len (k : Nat) : ∀ n : Nat, n < 10 ^ (k + 1) → (Lib.decDigits n).length ≤ k + 1 := by
  induction k with
  | zero => intro n h; rw [Lib.decDigits, dif_pos (by omega)]; simp
  | succ k ih =>
    intro n h
    rw [Lib.decDigits]
    split
    · simp
    · have := ih (n / 10) (by rw [Nat.pow_succ] at h; omega)
      simp; omega
def coreT (x y z : Nat) : List UInt8 := 118 :: (Lib.decDigits x ++ 46 :: (Lib.decDigits y ++ 46 :: Lib.decDigits z))
/-- two digits within -/
def inB (s : List UInt8) (i : Nat) (l m : List UInt8) : Bool := !(Op.bytesLess ((s.take (i + 2)).drop i) l) && (Op.bytesLess ((s.take (i + 2)).drop i) m || (s.take (i + 2)).drop i == m)
def stampB (s : List UInt8) : Bool := decide (s.length = 14) && (allB isD s && (inB s 4 [48, 49] [49, 50] && (inB s 6 [48, 49] [51, 49] && (inB s 8 [48, 48] [50, 51] && (inB s 10 [48, 48] [53, 57] && inB s 12 [48, 48] [53, 57])))))
def isX (c : UInt8) : Bool := isD c || decide (97 ≤ c.toNat ∧ c.toNat ≤ 102)
def revB (s : List UInt8) : Bool := decide (s.length = 12) && allB isX s
/-- the text of a pseudo-version -/
def pseudoT (major : Nat) (base tr : List UInt8) : List UInt8 := match readB base with
  | none => coreT major 0 0 ++ 45 :: tr
  | some x => if base = [] then coreT major 0 0 ++ 45 :: tr else if x.pre ≠ [] then base ++ [46, 48, 46] ++ tr else coreT x.ma x.mi (x.pa + 1) ++ [45, 48, 46] ++ tr
def pseudoB (major : Int) (base time rev : List UInt8) : List UInt8 × Nat :=
  if major < 0 ∨ 999999999 < major then ([], 6) else
  if stampB time = false ∨ revB rev = false then ([], 15) else
  if base ≠ [] ∧ (∀ x, readB base = some x → (x.ma : Int) ≠ major) then ([], 8) else
  let out := pseudoT major.toNat base (time ++ 45 :: rev)
  if (readB out).isSome then (out, 0) else ([], 8)
end Go.AI
namespace Go.AI
/-! Escapes. -/
def escC (c : UInt8) : List UInt8 := if isU c = true then [33, c + 32] else [c]
def escT (s : List UInt8) : List UInt8 := s.flatMap escC
def escQ (c : UInt8) : Bool := c == 33 || isH c
def escBad (s : List UInt8) : Bool := s.any escQ
def escR (s : List UInt8) : List UInt8 × Nat := if escBad s = true then ([], 15) else (escT s, 0)
theorem escC_len (c : UInt8) : (escC c).length ≤ 2 := by unfold escC; split <;> simp
theorem escT_len (s : List UInt8) : (escT s).length ≤ 2 * s.length := by
  induction s with
  | nil => simp [escT]
  | cons c r ih => have := escC_len c; simp only [escT, List.flatMap_cons, List.length_append, List.length_cons] at ih ⊢; omega
end Go.AI
namespace Go.AI
/-- escapes are read -/
def unT : List UInt8 → Option (List UInt8)
  | [] => some []
  | [c] => if c = 33 then none else some [c]
  | c :: d :: r => if c = 33 then (if isL d = true then (unT r).map ((d - 32) :: ·) else none) else (unT (d :: r)).map (c :: ·)
def unQ (c : UInt8) : Bool := isU c || isH c
def unBad (s : List UInt8) : Bool := s.any unQ
def unR (s : List UInt8) : List UInt8 × Nat := if unBad s = true then ([], 15) else match unT s with
  | some t => (t, 0)
  | none => ([], 15)
theorem unT_plain {c : UInt8} (h : c ≠ 33) (r : List UInt8) : unT (c :: r) = (unT r).map (c :: ·) := by
  cases r with
  | nil => simp [unT, h]
  | cons d r => simp only [unT, if_neg h]
theorem unT_mark {d : UInt8} (h : isL d = true) (r : List UInt8) : unT (33 :: d :: r) = (unT r).map ((d - 32) :: ·) := by simp [unT, h]
theorem unT_end : unT [33] = none := by simp [unT]
theorem unT_no {d : UInt8} (h : isL d = false) (r : List UInt8) : unT (33 :: d :: r) = none := by simp [unT, h]

/-! Paths. -/
def elemB (o s : List UInt8) : Bool := allB (wordB o) s && (!(decide (s.head? = some 46)) && !(decide (s.getLast? = some 46)))
def elemsB (o p : List UInt8) : Bool := (splitB 47 p).all (elemB o)
def majB : List UInt8 → Option Nat
  | [] => none
  | c :: r => if c ≠ 118 then none else match numB r with
    | none => none
    | some n => if n < 2 then none else some n
def splitMB (p : List UInt8) : List UInt8 × Nat := match lix 47 p with
  | none => (p, 0)
  | some i => match majB (p.drop (i + 1)) with
    | none => (p, 0)
    | some n => (p.take i, n)
def oddB (c : UInt8) : Bool := isU c || (c == 95 || c == 126)
def lastB (p : List UInt8) : List UInt8 := match lix 47 p with
  | some n => p.drop (n + 1)
  | none => p
def pathB (p : List UInt8) : Nat := if 100 < p.length then 13 else
  if elemsB [45, 46, 95, 126] p = false ∨ 46 ∉ (cutB 47 p).1 ∨ (cutB 47 p).1.any oddB = true ∨ (cutB 47 p).1.head? = some 45 then 9 else
  if (cutB 47 p).2.2 = true ∧ (lastB p).head? = some 118 ∧ allB isD (lastB p).tail = true ∧ (splitMB p).2 = 0 then 10 else 0
def importB (p : List UInt8) : Nat := if 100 < p.length then 13 else if elemsB [45, 46, 95, 126, 43] p = false then 9 else 0
def matchesB (v p : List UInt8) : Bool := match readB v with
  | none => false
  | some x => decide (x.ma = (splitMB p).2) || (decide ((splitMB p).2 = 0) && decide (x.ma = 1))
def checkB (p v : List UInt8) : Nat := if pathB p ≠ 0 then pathB p else if readB v = none then 8 else if matchesB v p = false then 10 else 0
theorem lastB_mem (p : List UInt8) : lastB p ∈ splitB 47 p := by
  have h := splitB_last 47 p
  have : lastB p = (splitB 47 p).getLast (splitB_ne 47 p) := by rw [h]; rfl
  rw [this]; exact List.getLast_mem _
end Go.AI
end
section
/- Escapes there and back: plain. -/
namespace Go.AI
theorem escC_back {c : UInt8} (h : escQ c = false) (r : List UInt8) : unT (escC c ++ r) = (unT r).map (c :: ·) := by
  simp only [escQ, Bool.or_eq_false_iff, beq_eq_false_iff_ne] at h
  unfold escC
  split
  · rename_i u
    have h2 : 65 ≤ c.toNat ∧ c.toNat ≤ 90 := of_decide_eq_true u
    have h3 : (c + 32).toNat = c.toNat + 32 := by rw [UInt8.toNat_add]; simp; omega
    have h4 : isL (c + 32) = true := by unfold isL; rw [h3]; exact decide_eq_true (by omega)
    show unT (33 :: (c + 32) :: r) = _
    rw [unT_mark h4]
    simp
  · exact unT_plain h.1 r
theorem esc_back {a : List UInt8} (h : escBad a = false) : unT (escT a) = some a := by
  induction a with
  | nil => rfl
  | cons c r ih =>
    simp only [escBad, List.any_cons, Bool.or_eq_false_iff] at h
    have := ih h.2
    show unT (escC c ++ escT r) = _
    rw [escC_back h.1, this]; rfl
theorem escC_low {c : UInt8} (h : escQ c = false) : ∀ x ∈ escC c, unQ x = false := by
  intro x hx
  simp only [escQ, Bool.or_eq_false_iff, beq_eq_false_iff_ne] at h
  unfold escC at hx
  split at hx
  · rename_i u
    have h2 : 65 ≤ c.toNat ∧ c.toNat ≤ 90 := of_decide_eq_true u
    have h3 : (c + 32).toNat = c.toNat + 32 := by rw [UInt8.toNat_add]; simp; omega
    simp only [List.mem_cons, List.mem_nil_iff, or_false] at hx
    rcases hx with rfl | rfl
    · decide
    · simp only [unQ, isU, isH, h3]; simp; omega
  · rename_i u
    simp only [List.mem_cons, List.mem_nil_iff, or_false] at hx
    subst hx
    simp only [unQ, h.2, Bool.or_false]; simpa using u
theorem escT_low {a : List UInt8} (h : escBad a = false) : ∀ x ∈ escT a, unQ x = false := by
  intro x hx
  simp only [escT, List.mem_flatMap] at hx
  obtain ⟨c, hc, hx⟩ := hx
  refine escC_low ?_ x hx
  rw [Bool.eq_false_iff]; intro e
  rw [Bool.eq_false_iff] at h
  exact h (List.any_eq_true.2 ⟨c, hc, e⟩)
theorem unR_esc {a : List UInt8} (h : escBad a = false) : unR (escT a) = (a, 0) := by
  have : unBad (escT a) = false := by
    rw [Bool.eq_false_iff]; intro e
    obtain ⟨x, h1, h2⟩ := List.any_eq_true.1 e
    rw [escT_low h x h1] at h2; cases h2
  unfold unR; rw [if_neg (by simp [this]), esc_back h]
theorem escT_inj {a b : List UInt8} (ha : escBad a = false) (hb : escBad b = false) : (escT a == escT b) = (a == b) := by
  rw [Bool.eq_iff_iff, beq_iff_eq, beq_iff_eq]
  refine ⟨fun e => ?_, fun e => by rw [e]⟩
  have h1 := esc_back ha
  rw [e, esc_back hb] at h1
  injection h1 with h1; exact h1.symm
end Go.AI
end
section
/- The parts of a log's tree: plain. -/
namespace Go.AI
def halfW (n s : Nat) : Nat := if h : 2 * s < n ∧ 0 < s then halfW n (2 * s) else s
termination_by n - s
decreasing_by omega
def halfN (n : Nat) : Nat := halfW n 1
theorem halfW_spec (n : Nat) : ∀ s, 0 < s → s < n → s ≤ halfW n s ∧ halfW n s < n ∧ n ≤ 2 * halfW n s := by
  intro s
  induction hd : n - s using Nat.strongRecOn generalizing s with
  | _ d ih =>
    intro h0 h1
    rw [halfW]
    split
    · rename_i h
      have := ih (n - 2 * s) (by omega) (2 * s) rfl (by omega) h.1
      omega
    · omega
theorem halfN_spec {n : Nat} (h : 2 ≤ n) : 1 ≤ halfN n ∧ halfN n < n ∧ n ≤ 2 * halfN n := halfW_spec n 1 (by omega) (by omega)
/-- the parts that the proof of a record names -/
def pathN (i frm n : Nat) : List (Nat × Nat) := if h : 2 ≤ n then
    (if i < halfN n then pathN i frm (halfN n) ++ [(frm + halfN n, n - halfN n)] else pathN (i - halfN n) (frm + halfN n) (n - halfN n) ++ [(frm, halfN n)]) else []
termination_by n
decreasing_by
  · exact (halfN_spec h).2.1
  · have := halfN_spec h; omega
theorem pathN_len (n : Nat) : ∀ i a b, (pathN i a n).length = (pathN i b n).length := by
  induction n using Nat.strongRecOn with
  | _ n ih =>
    intro i a b
    rw [pathN.eq_def i a n, pathN.eq_def i b n]
    split
    · rename_i h
      have := halfN_spec h
      split
      · simp only [List.length_append, ih _ this.2.1 i a b, List.length_cons, List.length_nil]
      · simp only [List.length_append, ih (n - halfN n) (by omega) (i - halfN n) (a + halfN n) (b + halfN n), List.length_cons, List.length_nil]
    · rfl
def stepsN (i n : Nat) : Nat := (pathN i 0 n).length
theorem pathN_le (n : Nat) : ∀ i a, (pathN i a n).length ≤ n := by
  induction n using Nat.strongRecOn with
  | _ n ih =>
    intro i a
    rw [pathN.eq_def]
    split
    · rename_i h
      have := halfN_spec h
      split
      · have := ih _ this.2.1 i a; simp; omega
      · have := ih (n - halfN n) (by omega) (i - halfN n) (a + halfN n); simp; omega
    · simp
/-- the parts that the proof of a longer log names -/
def subN (m frm n : Nat) (w : Bool) : List (Nat × Nat) := if h : m < n ∧ 0 < m then
    (if m ≤ halfN n then subN m frm (halfN n) w ++ [(frm + halfN n, n - halfN n)] else subN (m - halfN n) (frm + halfN n) (n - halfN n) false ++ [(frm, halfN n)])
  else if w then [] else [(frm, n)]
termination_by n
decreasing_by
  · exact (halfN_spec (by omega)).2.1
  · have := halfN_spec (n := n) (by omega); omega
theorem subN_len (n : Nat) : ∀ m a b w, (subN m a n w).length = (subN m b n w).length := by
  induction n using Nat.strongRecOn with
  | _ n ih =>
    intro m a b w
    rw [subN.eq_def m a n, subN.eq_def m b n]
    split
    · rename_i h
      have := halfN_spec (n := n) (by omega)
      split
      · simp only [List.length_append, ih _ this.2.1 m a b, List.length_cons, List.length_nil]
      · simp only [List.length_append, ih (n - halfN n) (by omega) (m - halfN n) (a + halfN n) (b + halfN n), List.length_cons, List.length_nil]
    · split <;> rfl
theorem subN_le (n : Nat) : ∀ m a w, (subN m a n w).length ≤ n + 1 := by
  induction n using Nat.strongRecOn with
  | _ n ih =>
    intro m a w
    rw [subN.eq_def]
    split
    · rename_i h
      have := halfN_spec (n := n) (by omega)
      split
      · have := ih _ this.2.1 m a w; simp; omega
      · have := ih (n - halfN n) (by omega) (m - halfN n) (a + halfN n) false; simp; omega
    · split <;> simp
end Go.AI
namespace Go.AI
section
variable (nodeB : List UInt8 → List UInt8 → List UInt8)
/-- the hash that a leaf and its path make -/
def climbB (p : List (List UInt8)) (i n : Nat) (leaf : List UInt8) : List UInt8 := if h : 2 ≤ n then
    (if i < halfN n then nodeB (climbB (p.take (p.length - 1)) i (halfN n) leaf) (p.getD (p.length - 1) [])
      else nodeB (p.getD (p.length - 1) []) (climbB (p.take (p.length - 1)) (i - halfN n) (n - halfN n) leaf)) else leaf
termination_by n
decreasing_by
  · exact (halfN_spec h).2.1
  · have := halfN_spec h; omega
/-- the two hashes that a proof of a longer log makes -/
def growB (p : List (List UInt8)) (m n : Nat) (w : Bool) (old : List UInt8) : List UInt8 × List UInt8 := if h : m < n ∧ 0 < m then
    (if m ≤ halfN n then ((growB (p.take (p.length - 1)) m (halfN n) w old).1, nodeB (growB (p.take (p.length - 1)) m (halfN n) w old).2 (p.getD (p.length - 1) []))
      else (nodeB (p.getD (p.length - 1) []) (growB (p.take (p.length - 1)) (m - halfN n) (n - halfN n) false old).1, nodeB (p.getD (p.length - 1) []) (growB (p.take (p.length - 1)) (m - halfN n) (n - halfN n) false old).2))
  else if w then (old, old) else (p.getD 0 [], p.getD 0 [])
termination_by n
decreasing_by
  · exact (halfN_spec (by omega)).2.1
  · have := halfN_spec (n := n) (by omega); omega
end
theorem stepsN_pos {i n : Nat} (h : 2 ≤ n) : stepsN i n = (if i < halfN n then stepsN i (halfN n) else stepsN (i - halfN n) (n - halfN n)) + 1 := by
  unfold stepsN
  rw [pathN, dif_pos h]
  split
  · simp
  · simp; exact pathN_len _ _ _ _
theorem stepsN_one {i n : Nat} (h : ¬ 2 ≤ n) : stepsN i n = 0 := by unfold stepsN; rw [pathN, dif_neg h]; rfl
def subStepsN (m n : Nat) (w : Bool) : Nat := (subN m 0 n w).length
theorem subStepsN_pos {m n : Nat} {w : Bool} (h : m < n ∧ 0 < m) : subStepsN m n w = (if m ≤ halfN n then subStepsN m (halfN n) w else subStepsN (m - halfN n) (n - halfN n) false) + 1 := by
  unfold subStepsN
  rw [subN, dif_pos h]
  split
  · simp
  · simp; exact subN_len _ _ _ _ _
theorem subStepsN_end {m n : Nat} {w : Bool} (h : ¬ (m < n ∧ 0 < m)) : subStepsN m n w = if w then 0 else 1 := by
  unfold subStepsN; rw [subN, dif_neg h]; split <;> rfl
end Go.AI
end
section
/- Paths: plain. -/
namespace Go.AI
theorem splitB_head (c : UInt8) (l : List UInt8) : (splitB c l)[0]? = some (cutB c l).1 ∧ ((cutB c l).2.2 = true ↔ 1 < (splitB c l).length) := by
  cases h : ix c l with
  | none => rw [splitB_none h]; simp [cutB, h]
  | some n =>
    rw [splitB_ix h]
    have := splitB_ne c (l.drop (n + 1))
    have h2 : 0 < (splitB c (l.drop (n + 1))).length := List.length_pos_iff.2 this
    simp [cutB, h]; omega
theorem lastB_get (p : List UInt8) : (splitB 47 p)[(splitB 47 p).length - 1]? = some (lastB p) := by
  have h := splitB_last 47 p
  have h2 : lastB p = (splitB 47 p).getLast (splitB_ne 47 p) := by rw [h]; rfl
  rw [h2, List.getLast_eq_getElem]
  exact List.getElem?_eq_getElem _
theorem cutB_lix (c : UInt8) (l : List UInt8) : (cutB c l).2.2 = true ↔ ∃ i, lix c l = some i := by
  cases h : ix c l with
  | none =>
    have h1 := ix_none.1 h
    have h2 := lix_none.2 h1
    simp [cutB, h, h2]
  | some n =>
    have h1 : c ∈ l := List.mem_of_getElem? (ix_some h).2.1
    cases h2 : lix c l with
    | none => exact absurd h1 (lix_none.1 h2)
    | some m => simp [cutB, h]
theorem majB_ge {q : List UInt8} {n : Nat} (h : majB q = some n) : 2 ≤ n := by
  cases q with
  | nil => cases h
  | cons c r =>
    simp only [majB] at h
    split at h
    · cases h
    · split at h
      · cases h
      · split at h
        · cases h
        · injection h with h; omega
theorem splitMB_zero (p : List UInt8) (h : (cutB 47 p).2.2 = true) : (splitMB p).2 = 0 ↔ majB (lastB p) = none := by
  obtain ⟨i, hi⟩ := (cutB_lix 47 p).1 h
  have h1 : lastB p = p.drop (i + 1) := by simp [lastB, hi]
  unfold splitMB
  rw [hi, h1]
  cases hm : majB (p.drop (i + 1)) with
  | none => simp [hm]
  | some n => have := majB_ge hm; simp [hm]; omega
end Go.AI
end
section
/- A path's major: plain. -/
namespace Go.AI
theorem majB_text {q : List UInt8} {n : Nat} (h : majB q = some n) : q = 118 :: Lib.decDigits n ∧ n < 1000000000 := by
  cases q with
  | nil => cases h
  | cons c r =>
    simp only [majB] at h
    split at h
    · cases h
    · rename_i hc
      split at h
      · cases h
      · rename_i m hm
        split at h
        · cases h
        · injection h with h
          subst h
          have hc : c = 118 := by simpa using hc
          exact ⟨by rw [numB_digits hm, hc], numB_lt hm⟩
theorem splitMB_text (p : List UInt8) : ((splitMB p).2 = 0 ∧ (splitMB p).1 = p) ∨ (2 ≤ (splitMB p).2 ∧ (splitMB p).2 < 1000000000 ∧ p = (splitMB p).1 ++ 47 :: 118 :: Lib.decDigits (splitMB p).2) := by
  unfold splitMB
  split
  · exact .inl ⟨rfl, rfl⟩
  · rename_i i hi
    split
    · exact .inl ⟨rfl, rfl⟩
    · rename_i n hn
      have ht := majB_text hn
      have hl := (lix_some hi).2.2.2
      refine .inr ⟨majB_ge hn, ht.2, ?_⟩
      show p = p.take i ++ 47 :: 118 :: Lib.decDigits n
      rw [← ht.1]; exact hl
theorem elemB_more {o o' s : List UInt8} (ho : ∀ c ∈ o, c ∈ o') (h : elemB o s = true) : elemB o' s = true := by
  simp only [elemB, allB, Bool.and_eq_true, List.all_eq_true] at h ⊢
  refine ⟨⟨fun c hc => ?_, h.1.2⟩, h.2⟩
  have := h.1.1 c hc
  simp only [wordB, Bool.or_eq_true, decide_eq_true_eq] at this ⊢
  rcases this with h | h
  · exact .inl h
  · exact .inr (ho c h)
theorem pathB_import {p : List UInt8} (h : pathB p = 0) : importB p = 0 := by
  unfold pathB at h
  unfold importB
  split at h
  · cases h
  · rename_i hl
    rw [if_neg hl]
    split at h
    · cases h
    · rename_i hn
      simp only [not_or] at hn
      have he : elemsB [45, 46, 95, 126] p = true := by simpa using hn.1
      have : elemsB [45, 46, 95, 126, 43] p = true := by
        simp only [elemsB, List.all_eq_true] at he ⊢
        exact fun x hx => elemB_more (fun c hc => by rw [show ([45, 46, 95, 126, 43] : List UInt8) = [45, 46, 95, 126] ++ [43] from rfl]; exact List.mem_append_left _ hc) (he x hx)
      rw [this]; simp
end Go.AI
end
section
/- Pseudo-versions taken apart: plain. -/
namespace Go.AI
def noP : List UInt8 × List UInt8 × List UInt8 × Bool := ([], [], [], false)
def idP (pre : List UInt8) : List UInt8 := match lix 46 pre with
  | some d => pre.drop (d + 1)
  | none => pre
/-- a time, a line, a revision -/
def okP (id : List UInt8) : Bool := decide (id.length = 27) && (decide (id[14]? = some 45) && (stampB (id.take 14) && revB (id.drop 15)))
/-- as the program takes it apart -/
def splitPB (v : List UInt8) : List UInt8 × List UInt8 × List UInt8 × Bool := match readB v with
  | none => noP
  | some x => if okP (idP x.pre) = false then noP else match lix 46 x.pre with
    | none => if x.mi = 0 ∧ x.pa = 0 then ([], (idP x.pre).take 14, (idP x.pre).drop 15, true) else noP
    | some d => if x.pre.take d = [48] ∧ 0 < x.pa then (coreT x.ma x.mi (x.pa - 1), (idP x.pre).take 14, (idP x.pre).drop 15, true)
      else if [46, 48] <:+ x.pre.take d ∧ x.pre.take (d - 2) ≠ [] then (coreT x.ma x.mi x.pa ++ 45 :: x.pre.take (d - 2), (idP x.pre).take 14, (idP x.pre).drop 15, true) else noP
/-- as the document takes it apart -/
def refPB (v : List UInt8) : List UInt8 × List UInt8 × List UInt8 × Bool := match readB v with
  | none => noP
  | some x => if x.pre.length < 27 then noP else
    let tail := x.pre.drop (x.pre.length - 27)
    let front := x.pre.take (x.pre.length - 27)
    if okP tail = false then noP else
    if front = [] then (if x.mi = 0 ∧ x.pa = 0 then ([], tail.take 14, tail.drop 15, true) else noP)
    else if front = [48, 46] then (if x.pa = 0 then noP else (coreT x.ma x.mi (x.pa - 1), tail.take 14, tail.drop 15, true))
    else if [46, 48, 46] <:+ front then (v.take (v.length - 30), tail.take 14, tail.drop 15, true) else noP

theorem lix_app {c : UInt8} {a b : List UInt8} (h : c ∉ b) : lix c (a ++ b) = lix c a := by
  induction a with
  | nil => simp [lix, lix_none.2 h]
  | cons x r ih => simp only [List.cons_append, lix, ih]
theorem okP_no {t : List UInt8} (h : okP t = true) : 46 ∉ t ∧ t.length = 27 := by
  simp only [okP, Bool.and_eq_true, decide_eq_true_eq] at h
  obtain ⟨h1, h2, h3, h4⟩ := h
  refine ⟨fun hm => ?_, h1⟩
  have hs : t = t.take 14 ++ 45 :: t.drop 15 := by
    obtain ⟨hl, hv⟩ := List.getElem?_eq_some_iff.1 h2
    have e := List.take_append_drop 14 t
    rw [List.drop_eq_getElem_cons hl, hv] at e
    exact e.symm
  rw [hs] at hm
  have h3' := h3
  simp only [stampB, allB, Bool.and_eq_true] at h3
  simp only [revB, allB, Bool.and_eq_true] at h4
  rcases List.mem_append.1 hm with hm | hm
  · have := List.all_eq_true.1 h3.2.1.1 _ hm
    simp [isD] at this
  · rcases List.mem_cons.1 hm with hm | hm
    · cases hm
    · have := List.all_eq_true.1 h4.2.1 _ hm
      simp [isX, isD] at this
theorem verT_pre (x : Ver) (h : x.pre ≠ []) : verT x = coreT x.ma x.mi x.pa ++ 45 :: x.pre := by
  unfold verT coreT; rw [if_neg h]
theorem split_nil (r : List UInt8) : splitB 46 (46 :: r) = [] :: splitB 46 r := by simp [splitB]
theorem ids_nodot {r : List UInt8} : idsB (46 :: r) = false := by
  simp [idsB, split_nil, idB, allB]
/-- the last bytes of a text that ends well -/
theorem idP_tail {pre : List UInt8} (h : okP (idP pre) = true) : 27 ≤ pre.length ∧ idP pre = pre.drop (pre.length - 27) := by
  have hl := (okP_no h).2
  unfold idP at hl ⊢
  split at hl
  · rename_i d hd
    have := (lix_some hd).1
    simp at hl
    refine ⟨by omega, ?_⟩
    show pre.drop (d + 1) = _
    congr 1; omega
  · rename_i hd
    refine ⟨by omega, ?_⟩
    show pre = _
    rw [show pre.length - 27 = 0 by omega]; rfl
theorem splitP_eq (v : List UInt8) : refPB v = splitPB v := by
  unfold refPB splitPB
  cases hr : readB v with
  | none => rfl
  | some x =>
    simp only
    have hv := readB_some hr
    by_cases hl : x.pre.length < 27
    · rw [if_pos hl]
      cases ho : okP (idP x.pre) with
      | false => rfl
      | true => exact absurd (idP_tail ho).1 (by omega)
    · rw [if_neg hl]
      have hsplit : x.pre = x.pre.take (x.pre.length - 27) ++ x.pre.drop (x.pre.length - 27) := (List.take_append_drop _ _).symm
      generalize hT : x.pre.drop (x.pre.length - 27) = tail at hsplit ⊢
      generalize hF : x.pre.take (x.pre.length - 27) = front at hsplit ⊢
      cases ho : okP tail with
      | false =>
        rw [if_pos rfl]
        cases ho2 : okP (idP x.pre) with
        | false => rfl
        | true =>
          have := (idP_tail ho2).2
          rw [hT] at this
          rw [this, ho] at ho2; cases ho2
      | true =>
        rw [if_neg (by simp)]
        obtain ⟨hno, htl⟩ := okP_no ho
        have hlix : lix 46 x.pre = lix 46 front := by rw [hsplit]; exact lix_app hno
        by_cases hf : front = []
        · rw [if_pos hf]
          have h0 : lix 46 x.pre = none := by rw [hlix, hf]; rfl
          have hid : idP x.pre = tail := by unfold idP; rw [h0]; show x.pre = tail; rw [hsplit, hf]; rfl
          rw [hid, ho, if_neg (show ¬ (true = false) by simp), h0]
        · rw [if_neg hf]
          obtain ⟨g, b, rfl⟩ : ∃ g b, front = g ++ [b] := ⟨front.dropLast, front.getLast hf, (List.dropLast_concat_getLast hf).symm⟩
          by_cases hb : b = 46
          · subst hb
            have hd : lix 46 x.pre = some g.length := by rw [hlix, lix_snoc, if_pos rfl]
            have hid : idP x.pre = tail := by
              unfold idP; rw [hd]; show x.pre.drop (g.length + 1) = tail
              rw [hsplit]; exact List.drop_left' (by simp)
            have htk : x.pre.take g.length = g := by rw [hsplit, List.append_assoc, List.take_left']; rfl
            rw [hid, ho, if_neg (show ¬ (true = false) by simp), hd]
            simp only [htk]
            by_cases hg : g = [48]
            · subst hg
              have e48 : ([48] ++ [46] : List UInt8) = [48, 46] := rfl
              rw [if_pos e48]
              by_cases hp : x.pa = 0
              · rw [if_pos hp, if_neg (by omega), if_neg (by rintro ⟨h, _⟩; revert h; decide)]
              · rw [if_neg hp, if_pos ⟨rfl, by omega⟩]
            · rw [if_neg (show ¬ (g ++ [46] = [48, 46]) from fun e => hg (List.append_cancel_right (as := g) (bs := [46]) (cs := [48]) e)), if_neg (fun e : g = [48] ∧ 0 < x.pa => hg e.1)]
              by_cases hs : [46, 48] <:+ g
              · obtain ⟨t, ht⟩ := hs
                have ht0 : t ≠ [] := by
                  rintro rfl
                  rcases hv.pre with h | h
                  · rw [h] at hsplit; simp at hsplit
                  · rw [hsplit, ← ht] at h
                    simp only [List.nil_append, List.cons_append, ids_nodot] at h
                    cases h
                have e1 : x.pre.take (g.length - 2) = t := by
                  rw [hsplit, ← ht]
                  simp
                have e2 : v.take (v.length - 30) = coreT x.ma x.mi x.pa ++ 45 :: t := by
                  rw [hv.text, verT_pre x (by rintro e; rw [e] at hsplit; simp at hsplit)]
                  rw [hsplit, ← ht]
                  have : (coreT x.ma x.mi x.pa ++ 45 :: (t ++ [46, 48] ++ [46] ++ tail)).length - 30 = (coreT x.ma x.mi x.pa ++ 45 :: t).length := by simp; omega
                  rw [this]
                  have : coreT x.ma x.mi x.pa ++ 45 :: (t ++ [46, 48] ++ [46] ++ tail) = (coreT x.ma x.mi x.pa ++ 45 :: t) ++ ([46, 48] ++ [46] ++ tail) := by simp
                  rw [this, List.take_left']
                  rfl
                rw [if_pos ⟨t, by rw [← ht]; simp⟩, if_pos ⟨⟨t, ht⟩, by rw [e1]; exact ht0⟩, e1, e2]
              · rw [if_neg (fun ⟨t, e⟩ => hs ⟨t, List.append_cancel_right (bs := [46]) (by simpa using e)⟩), if_neg (fun e => hs e.1)]
          · have hd : lix 46 x.pre = lix 46 g := by rw [hlix, lix_snoc, if_neg hb]
            rw [if_neg (fun e => hb (by have := congrArg List.getLast? e; simpa using this)), if_neg (fun ⟨t, e⟩ => hb (by have := congrArg List.getLast? e; simpa using this.symm))]
            cases ho2 : okP (idP x.pre) with
            | false => rfl
            | true =>
              have hl2 := (okP_no ho2).2
              exfalso
              have hlen : x.pre.length = g.length + 28 := by rw [hsplit]; simp; omega
              unfold idP at hl2
              rw [hd] at hl2
              cases hq : lix 46 g with
              | none => rw [hq] at hl2; simp only at hl2; omega
              | some d => rw [hq] at hl2; have := (lix_some hq).1; simp at hl2; omega
/-! two digits -/
def num2 (a b : UInt8) : Int := ((a.toNat : Int) - 48) * 10 + ((b.toNat : Int) - 48)
theorem less2 {a b c d : UInt8} (h1 : isD b = true) (h2 : isD d = true) : Op.bytesLess [a, b] [c, d] = decide (num2 a b < num2 c d) := by
  rw [bytesLess_eq]
  simp only [isD, decide_eq_true_eq] at h1 h2
  simp only [bytesC, lexC, orI, u8C, natC, num2]
  by_cases e1 : a.toNat < c.toNat
  · have e0 : ¬ c.toNat < a.toNat := by omega
    have e9 : ((a.toNat : Int) - 48) * 10 + ((b.toNat : Int) - 48) < ((c.toNat : Int) - 48) * 10 + ((d.toNat : Int) - 48) := by omega
    simp [e1, e9]
  · by_cases e2 : c.toNat < a.toNat
    · have e9 : ¬ ((a.toNat : Int) - 48) * 10 + ((b.toNat : Int) - 48) < ((c.toNat : Int) - 48) * 10 + ((d.toNat : Int) - 48) := by omega
      simp [e1, e2, e9]
    · have e3 : a.toNat = c.toNat := by omega
      by_cases e4 : b.toNat < d.toNat
      · have e9 : ((a.toNat : Int) - 48) * 10 + ((b.toNat : Int) - 48) < ((c.toNat : Int) - 48) * 10 + ((d.toNat : Int) - 48) := by omega
        simp [e1, e2, e4, e9]
      · have e9 : ¬ ((a.toNat : Int) - 48) * 10 + ((b.toNat : Int) - 48) < ((c.toNat : Int) - 48) * 10 + ((d.toNat : Int) - 48) := by omega
        by_cases e5 : d.toNat < b.toNat
        · simp [e1, e2, e4, e5, e9]
        · simp [e1, e2, e4, e5, e9]
theorem inB_num {s : List UInt8} {i : Nat} {a b l1 l2 m1 m2 : UInt8} (ha : s[i]? = some a) (hb : s[i + 1]? = some b) (hd : isD b = true) (hl : isD l2 = true) (hm : isD m2 = true) :
    inB s i [l1, l2] [m1, m2] = (decide (num2 l1 l2 ≤ num2 a b) && decide (num2 a b ≤ num2 m1 m2)) := by
  have hs : (s.take (i + 2)).drop i = [a, b] := by
    obtain ⟨h1, e1⟩ := List.getElem?_eq_some_iff.1 ha
    obtain ⟨h2, e2⟩ := List.getElem?_eq_some_iff.1 hb
    rw [List.drop_take, List.drop_eq_getElem_cons h1, List.drop_eq_getElem_cons h2, e1, e2, show i + 2 - i = 2 by omega]
    rfl
  unfold inB
  rw [hs, less2 hd hl, less2 hd hm]
  have : ([a, b] == [m1, m2]) = decide (num2 a b = num2 m1 m2 ∧ a = m1) := by
    rw [Bool.eq_iff_iff]
    simp only [beq_iff_eq, List.cons.injEq, and_true, decide_eq_true_eq]
    constructor
    · rintro ⟨rfl, rfl⟩; exact ⟨rfl, rfl⟩
    · rintro ⟨h, rfl⟩
      refine ⟨rfl, UInt8.toNat_inj.1 ?_⟩
      unfold num2 at h; omega
  rw [this, Bool.eq_iff_iff]
  simp only [isD, decide_eq_true_eq] at hd hl hm
  rw [Bool.and_eq_true, Bool.or_eq_true, Bool.and_eq_true, Bool.not_eq_true', decide_eq_false_iff_not, decide_eq_true_iff, decide_eq_true_iff, decide_eq_true_iff, decide_eq_true_iff]
  constructor
  · rintro ⟨h1, h2 | ⟨h2, h3⟩⟩
    · exact ⟨by omega, by omega⟩
    · exact ⟨by omega, by omega⟩
  · rintro ⟨h1, h2⟩
    refine ⟨by omega, ?_⟩
    by_cases e : num2 a b < num2 m1 m2
    · exact .inl e
    · have e2 : num2 a b = num2 m1 m2 := by omega
      refine .inr ⟨e2, UInt8.toNat_inj.1 ?_⟩
      unfold num2 at e2; omega
end Go.AI
end
section
/- Pseudo-versions lie between: plain. -/
namespace Go.AI
theorem dec_small {n : Nat} (h : n < 10) : Lib.decDigits n = [UInt8.ofNat (48 + n)] := Lib.decDigits_one h
theorem dec_big {n : Nat} (h : ¬ n < 10) : Lib.decDigits n = Lib.decDigits (n / 10) ++ [UInt8.ofNat (48 + n % 10)] := by
  rw [Lib.decDigits, dif_neg h]
theorem dig_nat {k : Nat} (h : k < 10) : (UInt8.ofNat (48 + k)).toNat = 48 + k := by
  rw [UInt8.toNat_ofNat_of_lt' (by show 48 + k < 256; omega)]
theorem dig_isD {k : Nat} (h : k < 10) : isD (UInt8.ofNat (48 + k)) = true := by
  unfold isD; rw [dig_nat h]; simp; omega
theorem dec_all (n : Nat) : (Lib.decDigits n).all isD = true := by
  induction n using Nat.strongRecOn with
  | _ n ih =>
    by_cases h : n < 10
    · rw [dec_small h]; simp only [List.all_cons, List.all_nil, dig_isD h, Bool.and_true]
    · rw [dec_big h, List.all_append, ih _ (by omega)]
      simp only [List.all_cons, List.all_nil, dig_isD (show n % 10 < 10 by omega), Bool.and_true]
theorem dec_val (n : Nat) : valB (Lib.decDigits n) = n := by
  induction n using Nat.strongRecOn with
  | _ n ih =>
    by_cases h : n < 10
    · rw [dec_small h]
      have : valB [UInt8.ofNat (48 + n)] = (UInt8.ofNat (48 + n)).toNat - 48 := by simp [valB]
      rw [this, dig_nat h]; omega
    · rw [dec_big h, valB_snoc, ih _ (by omega), dig_nat (by omega)]; omega
theorem dec_ne (n : Nat) : Lib.decDigits n ≠ [] := by
  by_cases h : n < 10
  · rw [dec_small h]; simp
  · rw [dec_big h]; simp
theorem dec_head (n : Nat) (h0 : 0 < n) : ∃ c r, Lib.decDigits n = c :: r ∧ c ≠ 48 := by
  induction n using Nat.strongRecOn with
  | _ n ih =>
    by_cases h : n < 10
    · refine ⟨_, [], dec_small h, fun e => ?_⟩
      have := congrArg UInt8.toNat e
      rw [dig_nat h] at this
      have h48 : (48 : UInt8).toNat = 48 := rfl
      omega
    · obtain ⟨c, r, h1, h2⟩ := ih (n / 10) (by omega) (by omega)
      exact ⟨c, r ++ [UInt8.ofNat (48 + n % 10)], by rw [dec_big h, h1]; rfl, h2⟩
theorem dec_plain (n : Nat) : plainB (Lib.decDigits n) = true := by
  by_cases h : n < 10
  · rw [dec_small h]; simp [plainB]
  · obtain ⟨c, r, h1, h2⟩ := dec_head n (by omega)
    rw [h1]; simp [plainB, h2]
theorem dec_inj {m n : Nat} (h : Lib.decDigits m = Lib.decDigits n) : m = n := by rw [← dec_val m, h, dec_val]
theorem numB_dec (n : Nat) : numB (Lib.decDigits n) = if n < 1000000000 then some n else none := by
  by_cases h : n < 1000000000
  · rw [if_pos h]
    have hl := decDigits_len 8 n (by omega)
    have hok : numOk (Lib.decDigits n) = true := by
      simp only [numOk, allB, dec_all, dec_plain, Bool.true_and, Bool.and_true, Bool.and_eq_true, decide_eq_true_eq, Bool.not_eq_true']
      refine ⟨?_, by omega⟩
      have := dec_ne n
      cases hd : Lib.decDigits n with
      | nil => exact absurd hd this
      | cons a r => rfl
    unfold numB
    rw [if_pos hok, dec_val]
  · rw [if_neg h]
    cases hn : numB (Lib.decDigits n) with
    | none => rfl
    | some m =>
      have h1 := numB_lt hn
      have h2 := dec_inj (numB_digits hn)
      omega
theorem dec_no (c : UInt8) (hc : isD c = false) (n : Nat) : c ∉ Lib.decDigits n := fun h => by
  have := List.all_eq_true.1 (dec_all n) c h
  rw [hc] at this; cases this
theorem cutB_app {c : UInt8} {x y : List UInt8} (h : c ∉ x) : cutB c (x ++ c :: y) = (x, y, true) := by
  unfold cutB
  rw [ix_app h]
  simp
theorem cutB_not {c : UInt8} {x : List UInt8} (h : c ∉ x) : cutB c x = (x, [], false) := by
  unfold cutB
  rw [ix_none.2 h]
def coreR (a b c : Nat) : List UInt8 := Lib.decDigits a ++ 46 :: (Lib.decDigits b ++ 46 :: Lib.decDigits c)
theorem coreR_split (a b c : Nat) : splitB 46 (coreR a b c) = [Lib.decDigits a, Lib.decDigits b, Lib.decDigits c] := by
  unfold coreR
  rw [splitB_app (dec_no 46 (by decide) a), splitB_app (dec_no 46 (by decide) b), splitB_not (dec_no 46 (by decide) c)]
theorem coreR_no (a b c : Nat) : (45 : UInt8) ∉ coreR a b c := by
  unfold coreR
  simp only [List.mem_append, List.mem_cons, not_or]
  exact ⟨dec_no 45 (by decide) a, by decide, dec_no 45 (by decide) b, by decide, dec_no 45 (by decide) c⟩
theorem coreOf_R (a b c : Nat) : coreOf (coreR a b c) = if a < 1000000000 ∧ b < 1000000000 ∧ c < 1000000000 then some (a, b, c) else none := by
  unfold coreOf
  rw [coreR_split]
  simp only [numB_dec]
  by_cases h1 : a < 1000000000 <;> by_cases h2 : b < 1000000000 <;> by_cases h3 : c < 1000000000 <;> simp [h1, h2, h3]
theorem readB_pre {a b c : Nat} {p : List UInt8} (h : (readB (coreT a b c ++ 45 :: p)).isSome = true) : readB (coreT a b c ++ 45 :: p) = some ⟨a, b, c, p⟩ := by
  have e : coreT a b c ++ 45 :: p = 118 :: (coreR a b c ++ 45 :: p) := rfl
  rw [e] at h ⊢
  unfold readB at h ⊢
  split at h
  · cases h
  · rename_i hl
    rw [if_neg hl]
    simp only [cutB_app (coreR_no a b c), coreOf_R, ne_eq, not_true_eq_false, if_false] at h ⊢
    by_cases hb : a < 1000000000 ∧ b < 1000000000 ∧ c < 1000000000
    · simp only [if_pos hb] at h ⊢
      split at h
      · cases h
      · rename_i hi
        simp only [hi, if_false]; rfl
    · simp only [if_neg hb] at h; cases h
theorem readB_core {a b c : Nat} (ha : a < 1000000000) (hb : b < 1000000000) (hc : c < 1000000000) : readB (coreT a b c) = some ⟨a, b, c, []⟩ := by
  have e : coreT a b c = 118 :: coreR a b c := rfl
  have la := decDigits_len 8 a (by omega)
  have lb := decDigits_len 8 b (by omega)
  have lc := decDigits_len 8 c (by omega)
  have hl : ¬ 60 < (118 :: coreR a b c).length := by simp [coreR]; omega
  rw [e]
  unfold readB
  rw [if_neg hl]
  simp [cutB_not (coreR_no a b c), coreOf_R, ha, hb, hc]
theorem tr_ok {time rev : List UInt8} (h1 : stampB time = true) (h2 : revB rev = true) : okP (time ++ 45 :: rev) = true ∧ (time ++ 45 :: rev).take 14 = time ∧ (time ++ 45 :: rev).drop 15 = rev := by
  have l1 : time.length = 14 := by have h := h1; simp only [stampB, Bool.and_eq_true, decide_eq_true_eq] at h; exact h.1
  have l2 : rev.length = 12 := by have h := h2; simp only [revB, Bool.and_eq_true, decide_eq_true_eq] at h; exact h.1
  have e1 : (time ++ 45 :: rev).take 14 = time := List.take_left' l1
  have e2 : (time ++ 45 :: rev).drop 15 = rev := by
    have : time ++ 45 :: rev = (time ++ [45]) ++ rev := by simp
    rw [this]; exact List.drop_left' (by simp [l1])
  refine ⟨?_, e1, e2⟩
  unfold okP
  rw [e1, e2, h1, h2, List.getElem?_append_right (by omega), l1]
  simp [l1, l2]
theorem splitB_cat (c : UInt8) (x y : List UInt8) : splitB c (x ++ c :: y) = splitB c x ++ splitB c y := by
  induction x with
  | nil => simp [splitB]
  | cons b r ih =>
    simp only [List.cons_append, splitB, ih]
    split
    · rfl
    · have := splitB_ne c r
      cases hr : splitB c r with
      | nil => exact absurd hr this
      | cons h t => rfl
theorem lexC_more {α : Type} {c : α → α → Int} (h : TO c) (l : List α) {m : List α} (hm : m ≠ []) : lexC c (l ++ m) l = 1 := by
  induction l with
  | nil => cases m with
    | nil => exact absurd rfl hm
    | cons a r => rfl
  | cons a r ih => simp only [List.cons_append, lexC, h.refl, orI, if_true]; exact ih
theorem natC_self (n : Nat) : natC n n = 0 := TO.nat.refl n
/-- what a pseudo-version is -/
structure Betw (mj : Int) (base time rev v : List UInt8) (y : Ver) : Prop where
  read : readB v = some y
  ma : (y.ma : Int) = mj
  back : splitPB v = (base, time, rev, true)
  above : base = [] ∨ cmpB v base = 1
  below : cmpB v (coreT y.ma y.mi y.pa) = -1
theorem below_of {v : List UInt8} {y : Ver} (hr : readB v = some y) (hp : y.pre ≠ []) : cmpB v (coreT y.ma y.mi y.pa) = -1 := by
  have rx := readB_some hr
  unfold cmpB
  rw [hr, readB_core rx.ma rx.mi rx.pa]
  simp only [verC, natC_self, orI, if_true, presC, if_pos (Or.inr rfl : y.pre = [] ∨ ([] : List UInt8) = [])]
  cases hq : y.pre with
  | nil => exact absurd hq hp
  | cons a r => simp [natC]
theorem between {mj : Int} {base time rev : List UInt8} (h : (pseudoB mj base time rev).2 = 0) : ∃ y, Betw mj base time rev (pseudoB mj base time rev).1 y := by
  unfold pseudoB at h ⊢
  by_cases c1 : mj < 0 ∨ 999999999 < mj
  · rw [if_pos c1] at h; cases h
  rw [if_neg c1] at h ⊢
  by_cases c2 : stampB time = false ∨ revB rev = false
  · rw [if_pos c2] at h; cases h
  rw [if_neg c2] at h ⊢
  by_cases c3 : base ≠ [] ∧ (∀ x, readB base = some x → (x.ma : Int) ≠ mj)
  · rw [if_pos c3] at h; cases h
  rw [if_neg c3] at h ⊢
  simp only at h ⊢
  by_cases c4 : (readB (pseudoT mj.toNat base (time ++ 45 :: rev))).isSome = true
  · rw [if_pos c4]
    simp only
    have h1 : stampB time = true := by cases h : stampB time with
      | true => rfl
      | false => exact absurd (.inl h) c2
    have h2 : revB rev = true := by cases h : revB rev with
      | true => rfl
      | false => exact absurd (.inr h) c2
    obtain ⟨t1, t2, t3⟩ := tr_ok h1 h2
    obtain ⟨t4, t5⟩ := okP_no t1
    generalize time ++ 45 :: rev = tr at c4 t1 t2 t3 t4 t5 ⊢
    have tr0 : tr ≠ [] := by rintro rfl; simp at t5
    by_cases b0 : base = []
    · subst b0
      have e0 : readB [] = none := by simp [readB]
      have hP : pseudoT mj.toNat [] tr = coreT mj.toNat 0 0 ++ 45 :: tr := by unfold pseudoT; rw [e0]
      rw [hP] at c4 ⊢
      have hr := readB_pre c4
      refine ⟨_, hr, by simp; omega, ?_, .inl rfl, below_of hr tr0⟩
      have hx : lix 46 tr = none := lix_none.2 t4
      have hid : idP tr = tr := by unfold idP; rw [hx]
      unfold splitPB
      rw [hr]
      simp only [hid, t1, hx, t2, t3]
      rfl
    · obtain ⟨x, hx, hm⟩ : ∃ x, readB base = some x ∧ (x.ma : Int) = mj := by
        apply Classical.byContradiction
        intro hn
        exact c3 ⟨b0, fun x hx he => hn ⟨x, hx, he⟩⟩
      have rx := readB_some hx
      by_cases p0 : x.pre = []
      · have hb : base = coreT x.ma x.mi x.pa := by rw [rx.text]; unfold verT coreT; rw [if_pos p0, List.append_nil]
        have hP : pseudoT mj.toNat base tr = coreT x.ma x.mi (x.pa + 1) ++ 45 :: (48 :: 46 :: tr) := by
          unfold pseudoT; rw [hx]; simp [b0, p0]
        rw [hP] at c4 ⊢
        have hr := readB_pre c4
        refine ⟨_, hr, hm, ?_, .inr ?_, below_of hr (by simp)⟩
        · have e1 : (48 : UInt8) :: 46 :: tr = [48, 46] ++ tr := rfl
          have hl : lix 46 (48 :: 46 :: tr) = some 1 := by rw [e1, lix_app t4]; rfl
          have hid : idP (48 :: 46 :: tr) = tr := by unfold idP; rw [hl]; rfl
          unfold splitPB
          rw [hr]
          simp only [hid, t1, hl, t2, t3]
          rw [if_neg (by simp), if_pos ⟨rfl, by omega⟩, hb]
          rfl
        · unfold cmpB
          rw [hr, hx]
          simp only [verC, natC_self, orI, if_true]
          have : natC (x.pa + 1) x.pa = 1 := by unfold natC; rw [if_neg (by omega), if_pos (by omega)]
          rw [this]; rfl
      · have hb : base = coreT x.ma x.mi x.pa ++ 45 :: x.pre := by rw [rx.text, verT_pre x p0]
        have hP : pseudoT mj.toNat base tr = coreT x.ma x.mi x.pa ++ 45 :: (x.pre ++ 46 :: 48 :: 46 :: tr) := by
          unfold pseudoT; rw [hx]; simp only [if_neg b0]; rw [if_pos p0, hb]; simp
        rw [hP] at c4 ⊢
        have hr := readB_pre c4
        refine ⟨_, hr, hm, ?_, .inr ?_, below_of hr (by simp)⟩
        · have e1 : x.pre ++ 46 :: 48 :: 46 :: tr = ((x.pre ++ [46, 48]) ++ [46]) ++ tr := by simp
          have hl : lix 46 (x.pre ++ 46 :: 48 :: 46 :: tr) = some (x.pre.length + 2) := by rw [e1, lix_app t4, lix_snoc, if_pos rfl]; simp
          have hid : idP (x.pre ++ 46 :: 48 :: 46 :: tr) = tr := by
            unfold idP; rw [hl]
            show (x.pre ++ 46 :: 48 :: 46 :: tr).drop (x.pre.length + 2 + 1) = tr
            rw [e1]; exact List.drop_left' (by simp)
          have e2 : (x.pre ++ 46 :: 48 :: 46 :: tr).take (x.pre.length + 2) = x.pre ++ [46, 48] := by
            rw [e1, List.append_assoc]; exact List.take_left' (by simp)
          have e3 : (x.pre ++ 46 :: 48 :: 46 :: tr).take (x.pre.length + 2 - 2) = x.pre := List.take_left' (by omega)
          unfold splitPB
          rw [hr]
          simp only [hid, t1, hl, t2, t3, e2, e3]
          rw [if_neg (by simp), if_neg (fun h => by have := congrArg List.length h.1; simp at this), if_pos ⟨⟨x.pre, rfl⟩, p0⟩, hb]
        · unfold cmpB
          rw [hr, hx]
          simp only [verC, natC_self, orI, if_true, presC]
          rw [if_neg (by simp [p0]), splitB_cat]
          exact lexC_more TO.id _ (splitB_ne _ _)
  · rw [if_neg c4] at h; cases h
theorem pseudoB_no {mj : Int} {base time rev : List UInt8} (h : (pseudoB mj base time rev).2 ≠ 0) : (pseudoB mj base time rev).1 = [] := by
  unfold pseudoB at h ⊢
  split
  · rfl
  · rename_i h1
    rw [if_neg h1] at h
    split
    · rfl
    · rename_i h2
      rw [if_neg h2] at h
      split
      · rfl
      · rename_i h3
        rw [if_neg h3] at h
        simp only at h ⊢
        split
        · rename_i h4; rw [if_pos h4] at h; exact absurd rfl h
        · rfl
end Go.AI
end
section
/- Sorting: plain. -/
namespace Go.AI
section
variable {α : Type} {c : α → α → Int}
def Srt (c : α → α → Int) (l : List α) : Prop := l.Pairwise fun a b => c a b ≤ 0
def ins1 (c : α → α → Int) (a : α) : List α → List α
  | [] => [a]
  | b :: r => if c a b ≤ 0 then a :: b :: r else b :: ins1 c a r
/-- the sorted list -/
def isrt (c : α → α → Int) : List α → List α
  | [] => []
  | a :: r => ins1 c a (isrt c r)
theorem ins1_perm (a : α) (l : List α) : (ins1 c a l).Perm (a :: l) := by
  induction l with
  | nil => exact .refl _
  | cons b r ih =>
    simp only [ins1]
    split
    · exact .refl _
    · exact (List.Perm.cons b ih).trans (.swap a b r)
theorem isrt_perm (l : List α) : (isrt c l).Perm l := by
  induction l with
  | nil => exact .refl _
  | cons a r ih => exact (ins1_perm a _).trans (.cons a ih)
theorem ins1_srt (h : TO c) (a : α) {l : List α} (hl : Srt c l) : Srt c (ins1 c a l) := by
  induction l with
  | nil => simp [ins1, Srt]
  | cons b r ih =>
    have hb := List.pairwise_cons.1 hl
    simp only [ins1]
    split
    · rename_i hab
      refine List.pairwise_cons.2 ⟨fun x hx => ?_, hl⟩
      rcases List.mem_cons.1 hx with rfl | hx
      · exact hab
      · exact h.trans _ _ _ hab (hb.1 x hx)
    · rename_i hab
      refine List.pairwise_cons.2 ⟨fun x hx => ?_, ih hb.2⟩
      rcases List.mem_cons.1 ((ins1_perm a r).mem_iff.1 hx) with rfl | hx
      · have := h.flip x b; omega
      · exact hb.1 x hx
theorem isrt_srt (h : TO c) (l : List α) : Srt c (isrt c l) := by
  induction l with
  | nil => simp [isrt, Srt]
  | cons a r ih => exact ins1_srt h a ih
theorem srt_uniq (h : TO c) {l w : List α} (hp : w.Perm l) (hs : Srt c w) : w = isrt c l := by
  refine List.Perm.eq_of_pairwise (le := fun a b => c a b ≤ 0) ?_ hs (isrt_srt h l) (hp.trans (isrt_perm l).symm)
  intro a b _ _ h1 h2
  have := h.flip a b
  exact h.eq a b (by omega)
theorem isrt_self (h : TO c) {w : List α} (hs : Srt c w) : isrt c w = w := (srt_uniq h (.refl _) hs).symm
theorem isrt_congr (h : TO c) {x y : List α} (hp : x.Perm y) : isrt c x = isrt c y := srt_uniq h ((isrt_perm x).trans hp) (isrt_srt h x)
theorem isrt_app (h : TO c) {x y : List α} (hxy : ∀ a ∈ x, ∀ b ∈ y, c a b ≤ 0) : isrt c (x ++ y) = isrt c x ++ isrt c y := by
  refine (srt_uniq h ((isrt_perm x).append (isrt_perm y)) ?_).symm
  refine List.pairwise_append.2 ⟨isrt_srt h x, isrt_srt h y, fun a ha b hb => hxy a ((isrt_perm x).mem_iff.1 ha) b ((isrt_perm y).mem_iff.1 hb)⟩
theorem isrt_len (l : List α) : (isrt c l).length = l.length := (isrt_perm l).length_eq
theorem isrt_mem {l : List α} {a : α} : a ∈ isrt c l ↔ a ∈ l := (isrt_perm l).mem_iff
theorem isrt_nil : isrt c [] = [] := rfl
theorem isrt_one (a : α) : isrt c [a] = [a] := rfl
theorem isrt_idem (h : TO c) (l : List α) : isrt c (isrt c l) = isrt c l := isrt_self h (isrt_srt h l)
/-- two places of a list -/
theorem two {A B C : List α} {a d : α} {i j : Nat} (hi : i = A.length) (hj : j = A.length + (B.length + 1)) :
    (A ++ a :: (B ++ d :: C))[i]? = some a ∧ (A ++ a :: (B ++ d :: C))[j]? = some d ∧ ((A ++ a :: (B ++ d :: C)).set i d).set j a = A ++ d :: (B ++ a :: C) := by
  subst hi; subst hj
  refine ⟨by simp, ?_, ?_⟩
  · rw [List.getElem?_append_right (by omega)]; simp
  · simp [List.set_append_right]
theorem get_at {A B : List α} {a : α} {i : Nat} (hi : i = A.length) : (A ++ a :: B)[i]? = some a := by subst hi; simp
end
end Go.AI
end
section
/- Stable sorting: plain. -/
namespace Go.AI
section
variable {α : Type} {c : α → α → Int}
/-- an order of all things, some of which may stand beside each other -/
structure TP (c : α → α → Int) : Prop where
  flip : ∀ a b, c b a = - c a b
  trans : ∀ a b d, c a b ≤ 0 → c b d ≤ 0 → c a d ≤ 0
theorem TO.tp (h : TO c) : TP c := ⟨h.flip, h.trans⟩
namespace TP
theorem refl (h : TP c) (a : α) : c a a = 0 := by have := h.flip a a; omega
theorem lt_le (h : TP c) {a b e : α} (h1 : c a b < 0) (h2 : c b e ≤ 0) : c a e < 0 := by
  rcases Int.lt_or_le (c a e) 0 with q | q
  · exact q
  · have h3 := h.flip a e
    have := h.trans b e a h2 (by omega)
    have := h.flip a b; omega
theorem le_lt (h : TP c) {a b e : α} (h1 : c a b ≤ 0) (h2 : c b e < 0) : c a e < 0 := by
  rcases Int.lt_or_le (c a e) 0 with q | q
  · exact q
  · have h3 := h.flip a e
    have := h.trans e a b (by omega) h1
    have := h.flip b e; omega
theorem nlt (h : TP c) {a b : α} : ¬ c b a < 0 ↔ c a b ≤ 0 := by have := h.flip a b; omega
theorem comap {β : Type} (h : TP c) (f : β → α) : TP fun x y => c (f x) (f y) := ⟨fun _ _ => h.flip _ _, fun _ _ _ => h.trans _ _ _⟩
end TP
/-- two rows merged, the left one's first -/
def mrg (c : α → α → Int) : List α → List α → List α
  | [], R => R
  | a :: L, [] => a :: L
  | a :: L, b :: R => if c b a < 0 then b :: mrg c (a :: L) R else a :: mrg c L (b :: R)
termination_by L R => L.length + R.length
@[simp] theorem mrg_nil (R : List α) : mrg c [] R = R := by rw [mrg]
@[simp] theorem mrg_nil' (L : List α) : mrg c L [] = L := by cases L <;> rw [mrg]
theorem mrg_cons (a b : α) (L R : List α) : mrg c (a :: L) (b :: R) = if c b a < 0 then b :: mrg c (a :: L) R else a :: mrg c L (b :: R) := by rw [mrg]
theorem mrg_perm (L R : List α) : (mrg c L R).Perm (L ++ R) := by
  fun_induction mrg c L R with
  | case1 R => exact .refl _
  | case2 a L => simp
  | case3 a L b R h ih => exact (List.Perm.cons b ih).trans List.perm_middle.symm
  | case4 a L b R h ih => exact .cons a ih
theorem mrg_split {L1 L2 R1 R2 : List α} (h1 : ∀ a ∈ L1, ∀ b ∈ R2, ¬ c b a < 0) (h2 : ∀ b ∈ R1, ∀ a ∈ L2, c b a < 0) : mrg c (L1 ++ L2) (R1 ++ R2) = mrg c L1 R1 ++ mrg c L2 R2 := by
  fun_induction mrg c L1 R1 with
  | case1 R =>
    induction R with
    | nil => rfl
    | cons b R ih =>
      cases L2 with
      | nil => simp
      | cons a L2 =>
        have := h2 b (by simp) a (by simp)
        simp only [List.nil_append, List.cons_append] at *
        rw [mrg_cons, if_pos this, ih (fun x hx => h2 x (by simp [hx]))]
  | case2 a L =>
    generalize hA : a :: L = A at *
    clear hA
    induction A with
    | nil => rfl
    | cons a A ih =>
      cases R2 with
      | nil => simp
      | cons b R2 =>
        have := h1 a (by simp) b (by simp)
        simp only [List.nil_append, List.cons_append] at *
        rw [mrg_cons, if_neg this, ih (fun x hx => h1 x (by simp [hx]))]
  | case3 a L b R h ih =>
    simp only [List.cons_append] at *
    rw [mrg_cons, if_pos h, ih h1 (fun x hx => h2 x (by simp [hx]))]
  | case4 a L b R h ih =>
    simp only [List.cons_append] at *
    rw [mrg_cons, if_neg h, ih (fun x hx => h1 x (by simp [hx])) h2]
theorem mrg_srt (h : TP c) {L R : List α} (hL : Srt c L) (hR : Srt c R) : Srt c (mrg c L R) := by
  fun_induction mrg c L R with
  | case1 R => exact hR
  | case2 a L => exact hL
  | case3 a L b R hc ih =>
    have k := List.pairwise_cons.1 hR
    refine List.pairwise_cons.2 ⟨fun x hx => ?_, ih hL k.2⟩
    rcases List.mem_append.1 ((mrg_perm _ _).mem_iff.1 hx) with hx | hx
    · rcases List.mem_cons.1 hx with rfl | hx
      · omega
      · exact h.trans _ _ _ (by omega) ((List.pairwise_cons.1 hL).1 x hx)
    · exact k.1 x hx
  | case4 a L b R hc ih =>
    have k := List.pairwise_cons.1 hL
    refine List.pairwise_cons.2 ⟨fun x hx => ?_, ih k.2 hR⟩
    have hab := h.nlt.1 hc
    rcases List.mem_append.1 ((mrg_perm _ _).mem_iff.1 hx) with hx | hx
    · exact k.1 x hx
    · rcases List.mem_cons.1 hx with rfl | hx
      · exact hab
      · exact h.trans _ _ _ hab ((List.pairwise_cons.1 hR).1 x hx)
theorem ins1_mrg (h : TP c) (a : α) (X Y : List α) : ins1 c a (mrg c X Y) = mrg c (ins1 c a X) Y := by
  fun_induction mrg c X Y with
  | case1 Y =>
    induction Y with
    | nil => simp [ins1]
    | cons y Y ih =>
      simp only [ins1] at ih ⊢
      rw [mrg_cons]
      by_cases q : c a y ≤ 0
      · rw [if_pos q, if_neg (h.nlt.2 q), mrg_nil]
      · rw [if_neg q, if_pos (by have := h.flip a y; omega), ih]
  | case2 x X => simp
  | case3 x X y Y hc ih =>
    simp only [ins1] at ih ⊢
    by_cases q : c a x ≤ 0
    · rw [if_pos q] at ih ⊢
      rw [mrg_cons]
      by_cases p : c a y ≤ 0
      · rw [if_pos p, if_neg (h.nlt.2 p), mrg_cons, if_pos hc]
      · rw [if_neg p, if_pos (by have := h.flip a y; omega), ih]
    · rw [if_neg q] at ih ⊢
      have p : ¬ c a y ≤ 0 := by
        intro p
        have := h.le_lt p hc; omega
      rw [if_neg p, mrg_cons, if_pos hc, ih]
  | case4 x X y Y hc ih =>
    simp only [ins1]
    by_cases q : c a x ≤ 0
    · rw [if_pos q, if_pos q, mrg_cons, if_neg, mrg_cons, if_neg hc]
      exact h.nlt.2 (h.trans _ _ _ q (h.nlt.1 hc))
    · rw [if_neg q, if_neg q, mrg_cons, if_neg hc, ih]
theorem isrt_mrg (h : TP c) (L R : List α) : isrt c (L ++ R) = mrg c (isrt c L) (isrt c R) := by
  induction L with
  | nil => simp [isrt]
  | cons a L ih => simp only [List.cons_append, isrt, ih, ins1_mrg h]
theorem isrt_srt' (h : TP c) (l : List α) : Srt c (isrt c l) := by
  induction l with
  | nil => simp [isrt, Srt]
  | cons a r ih =>
    have : isrt c (a :: r) = mrg c [a] (isrt c r) := by rw [← List.singleton_append, isrt_mrg h]; rfl
    rw [this]
    exact mrg_srt h (by simp [Srt]) ih
theorem isrt_snoc (h : TP c) (L : List α) (x : α) : isrt c (L ++ [x]) = mrg c (isrt c L) [x] := isrt_mrg h L [x]
theorem mrg_app {L R : List α} (h1 : ∀ a ∈ L, ∀ b ∈ R, ¬ c b a < 0) : mrg c L R = L ++ R := by
  have := mrg_split (c := c) (L1 := L) (L2 := []) (R1 := []) (R2 := R) h1 (by simp)
  simpa using this
theorem mrg_one {U V : List α} {x : α} (h1 : ∀ a ∈ U, ¬ c x a < 0) (h2 : ∀ a ∈ V, c x a < 0) : mrg c (U ++ V) [x] = U ++ x :: V := by
  have := mrg_split (c := c) (L1 := U) (L2 := V) (R1 := [x]) (R2 := []) (by simp) (by simpa using h2)
  rw [List.append_nil] at this
  rw [this, mrg_app (by simpa using h1)]; simp
theorem mrg_one' {U V : List α} {x : α} (h1 : ∀ a ∈ U, c a x < 0) (h2 : ∀ a ∈ V, ¬ c a x < 0) : mrg c [x] (U ++ V) = U ++ x :: V := by
  have := mrg_split (c := c) (L1 := []) (L2 := [x]) (R1 := U) (R2 := V) (by simp) (by simpa using h1)
  rw [List.nil_append] at this
  rw [this, mrg_nil, mrg_app (by simpa using h2)]; simp
theorem isrt_self' (h : TP c) {w : List α} (hs : Srt c w) : isrt c w = w := by
  induction w with
  | nil => rfl
  | cons a w ih =>
    have k := List.pairwise_cons.1 hs
    have e : isrt c (a :: w) = mrg c [a] (isrt c w) := by rw [← List.singleton_append, isrt_mrg h]; rfl
    rw [e, ih k.2, mrg_app]
    · rfl
    · intro x hx b hb
      simp at hx; subst hx
      exact h.nlt.2 (k.1 b hb)
theorem isrt_idem' (h : TP c) (l : List α) : isrt c (isrt c l) = isrt c l := isrt_self' h (isrt_srt' h l)
end
end Go.AI
end
section
/- Rows of things in a box: places, exchanges. Plain. -/
namespace Go.AI
section
variable {α : Type}
/-- two places exchanged, the first one written first -/
def swap2 (D : List α) (i j : Nat) : List α := match D[i]?, D[j]? with
  | some x, some y => (D.set i y).set j x
  | _, _ => D
theorem swap2_eq {D : List α} {i j : Nat} {x y : α} (h1 : D[i]? = some x) (h2 : D[j]? = some y) : swap2 D i j = (D.set i y).set j x := by
  unfold swap2; rw [h1, h2]
@[simp] theorem swap2_len {D : List α} {i j : Nat} : (swap2 D i j).length = D.length := by
  unfold swap2; split <;> simp
/-- rows of n exchanged, from two places on -/
def swapN (D : List α) (x y : Nat) : Nat → List α
  | 0 => D
  | n + 1 => swap2 (swapN D x y n) (x + n) (y + n)
@[simp] theorem swapN_len {D : List α} {x y n : Nat} : (swapN D x y n).length = D.length := by
  induction n with
  | zero => rfl
  | succ n ih => rw [swapN, swap2_len, ih]
theorem swap2_at {A B C : List α} {a d : α} : swap2 (A ++ a :: (B ++ d :: C)) A.length (A.length + (B.length + 1)) = A ++ d :: (B ++ a :: C) := by
  have := two (A := A) (B := B) (C := C) (a := a) (d := d) rfl rfl
  rw [swap2_eq this.1 this.2.1, this.2.2]
theorem swapN_at {pre U mid V post : List α} {n : Nat} (hU : U.length = n) (hV : V.length = n) :
    swapN (pre ++ (U ++ (mid ++ (V ++ post)))) pre.length (pre.length + (n + mid.length)) n = pre ++ (V ++ (mid ++ (U ++ post))) := by
  have key : ∀ k, k ≤ n → swapN (pre ++ (U ++ (mid ++ (V ++ post)))) pre.length (pre.length + (n + mid.length)) k = pre ++ ((V.take k ++ U.drop k) ++ (mid ++ ((U.take k ++ V.drop k) ++ post))) := by
    intro k hk
    induction k with
    | zero => simp [swapN]
    | succ k ih =>
      rw [swapN, ih (by omega)]
      obtain ⟨u, hu⟩ : ∃ u, U.drop k = u :: U.drop (k + 1) := ⟨_, List.drop_eq_getElem_cons (by omega)⟩
      obtain ⟨v, hv⟩ : ∃ v, V.drop k = v :: V.drop (k + 1) := ⟨_, List.drop_eq_getElem_cons (by omega)⟩
      have hu2 : U.take (k + 1) = U.take k ++ [u] := by
        have e : U[k]? = some u := by rw [← List.head?_drop, hu]; rfl
        rw [List.take_succ, e]; rfl
      have hv2 : V.take (k + 1) = V.take k ++ [v] := by
        have e : V[k]? = some v := by rw [← List.head?_drop, hv]; rfl
        rw [List.take_succ, e]; rfl
      rw [hu, hv, hu2, hv2]
      have := swap2_at (A := pre ++ V.take k) (a := u) (B := U.drop (k + 1) ++ (mid ++ U.take k)) (d := v) (C := V.drop (k + 1) ++ post)
      have e1 : (pre ++ V.take k).length = pre.length + k := by simp; omega
      have e2 : pre.length + k + ((U.drop (k + 1) ++ (mid ++ U.take k)).length + 1) = pre.length + (n + mid.length) + k := by simp; omega
      rw [e1, e2] at this
      simpa using this
  have := key n (Nat.le_refl _)
  rw [this, List.take_of_length_le (by omega), List.take_of_length_le (by omega), List.drop_of_length_le (by omega), List.drop_of_length_le (by omega)]
  simp
theorem bubL {pre S rest : List α} {x y : α} {u : Nat} (h : S[u]? = some y) :
    (pre ++ (S.take (u + 1) ++ x :: (S.drop (u + 1) ++ rest)))[pre.length + u]? = some y ∧ (pre ++ (S.take (u + 1) ++ x :: (S.drop (u + 1) ++ rest)))[pre.length + (u + 1)]? = some x ∧
    swap2 (pre ++ (S.take (u + 1) ++ x :: (S.drop (u + 1) ++ rest))) (pre.length + (u + 1)) (pre.length + u) = pre ++ (S.take u ++ x :: (S.drop u ++ rest)) := by
  have hl : u < S.length := (List.getElem?_eq_some_iff.1 h).1
  have hd : S.drop u = y :: S.drop (u + 1) := by rw [List.drop_eq_getElem_cons hl]; congr 1; exact (List.getElem?_eq_some_iff.1 h).2
  have ht : S.take (u + 1) = S.take u ++ [y] := by rw [List.take_succ, h]; rfl
  rw [ht, hd]
  have e : pre ++ (S.take u ++ [y] ++ x :: (S.drop (u + 1) ++ rest)) = (pre ++ S.take u) ++ y :: ([] ++ x :: (S.drop (u + 1) ++ rest)) := by simp
  have e1 : (pre ++ S.take u).length = pre.length + u := by simp; omega
  have := two (A := pre ++ S.take u) (B := []) (C := S.drop (u + 1) ++ rest) (a := y) (d := x) (i := pre.length + u) (j := pre.length + (u + 1)) (by omega) (by simp; omega)
  rw [e]
  refine ⟨this.1, this.2.1, ?_⟩
  rw [swap2_eq this.2.1 this.1, List.set_comm _ _ (by omega), this.2.2]
  simp
theorem bubR {pre S rest : List α} {x y : α} {u : Nat} (h : S[u]? = some y) :
    (pre ++ (S.take u ++ x :: (S.drop u ++ rest)))[pre.length + u]? = some x ∧ (pre ++ (S.take u ++ x :: (S.drop u ++ rest)))[pre.length + (u + 1)]? = some y ∧
    swap2 (pre ++ (S.take u ++ x :: (S.drop u ++ rest))) (pre.length + u) (pre.length + (u + 1)) = pre ++ (S.take (u + 1) ++ x :: (S.drop (u + 1) ++ rest)) := by
  have hl : u < S.length := (List.getElem?_eq_some_iff.1 h).1
  have hd : S.drop u = y :: S.drop (u + 1) := by rw [List.drop_eq_getElem_cons hl]; congr 1; exact (List.getElem?_eq_some_iff.1 h).2
  have ht : S.take (u + 1) = S.take u ++ [y] := by rw [List.take_succ, h]; rfl
  rw [ht, hd]
  have e : pre ++ (S.take u ++ x :: (y :: S.drop (u + 1) ++ rest)) = (pre ++ S.take u) ++ x :: ([] ++ y :: (S.drop (u + 1) ++ rest)) := by simp
  have e1 : (pre ++ S.take u).length = pre.length + u := by simp; omega
  have := two (A := pre ++ S.take u) (B := []) (C := S.drop (u + 1) ++ rest) (a := x) (d := y) (i := pre.length + u) (j := pre.length + (u + 1)) (by omega) (by simp; omega)
  rw [e]
  refine ⟨this.1, this.2.1, ?_⟩
  rw [swap2_eq this.1 this.2.1, this.2.2]
  simp

theorem srt_get {c : α → α → Int} (h : TP c) {L : List α} (hs : Srt c L) {i j : Nat} {x y : α} (hij : i ≤ j) (hx : L[i]? = some x) (hy : L[j]? = some y) : c x y ≤ 0 := by
  obtain ⟨h1, rfl⟩ := List.getElem?_eq_some_iff.1 hx
  obtain ⟨h2, rfl⟩ := List.getElem?_eq_some_iff.1 hy
  rcases Nat.lt_or_ge i j with q | q
  · exact List.pairwise_iff_getElem.1 hs i j h1 h2 q
  · obtain rfl : i = j := by omega
    rw [h.refl]; omega
theorem mem_take_get {L : List α} {k : Nat} {x : α} (h : x ∈ L.take k) : ∃ i, i < k ∧ L[i]? = some x := by
  obtain ⟨i, hi⟩ := List.mem_iff_getElem?.1 h
  rw [List.getElem?_take] at hi
  split at hi
  · exact ⟨i, ‹_›, hi⟩
  · cases hi
theorem mem_drop_get {L : List α} {k : Nat} {x : α} (h : x ∈ L.drop k) : ∃ i, k ≤ i ∧ L[i]? = some x := by
  obtain ⟨i, hi⟩ := List.mem_iff_getElem?.1 h
  rw [List.getElem?_drop] at hi
  exact ⟨k + i, by omega, hi⟩
def below1 (c : α → α → Int) (L R : List α) (s t : Nat) : Prop := ∃ x y, L[s - 1]? = some x ∧ R[t]? = some y ∧ ¬ c y x < 0
def below2 (c : α → α → Int) (L R : List α) (s t : Nat) : Prop := ∃ x y, L[s]? = some x ∧ R[t - 1]? = some y ∧ c y x < 0
/-- where two rows may be cut -/
theorem mrg_cut {c : α → α → Int} (h : TP c) {L R : List α} (hL : Srt c L) (hR : Srt c R) {s t : Nat}
    (h1 : s = 0 ∨ R.length ≤ t ∨ below1 c L R s t) (h2 : t = 0 ∨ L.length ≤ s ∨ below2 c L R s t) :
    mrg c L R = mrg c (L.take s) (R.take t) ++ mrg c (L.drop s) (R.drop t) := by
  conv => lhs; rw [← List.take_append_drop s L, ← List.take_append_drop t R]
  refine mrg_split (fun a ha b hb => ?_) (fun b hb a ha => ?_)
  · obtain ⟨i, hi, ha⟩ := mem_take_get ha
    obtain ⟨j, hj, hb⟩ := mem_drop_get hb
    rcases h1 with rfl | h1 | ⟨x, y, hx, hy, hxy⟩
    · omega
    · have := (List.getElem?_eq_some_iff.1 hb).1; omega
    · exact h.nlt.2 (h.trans _ _ _ (srt_get h hL (by omega) ha hx) (h.trans _ _ _ (h.nlt.1 hxy) (srt_get h hR hj hy hb)))
  · obtain ⟨i, hi, hb⟩ := mem_take_get hb
    obtain ⟨j, hj, ha⟩ := mem_drop_get ha
    rcases h2 with rfl | h2 | ⟨x, y, hx, hy, hxy⟩
    · omega
    · have := (List.getElem?_eq_some_iff.1 ha).1; omega
    · exact h.le_lt (srt_get h hR (by omega) hb hy) (h.lt_le hxy (srt_get h hL hj hx ha))
theorem srt_take {c : α → α → Int} {L : List α} (h : Srt c L) (k : Nat) : Srt c (L.take k) := List.Pairwise.sublist (List.take_sublist k L) h
theorem srt_drop {c : α → α → Int} {L : List α} (h : Srt c L) (k : Nat) : Srt c (L.drop k) := List.Pairwise.sublist (List.drop_sublist k L) h
/-- sorted by pieces of k -/
def blk (c : α → α → Int) (k : Nat) (L : List α) : List α := if h : k = 0 ∨ L.length ≤ k then isrt c L else isrt c (L.take k) ++ blk c k (L.drop k)
termination_by L.length
decreasing_by simp; omega
theorem blk_small {c : α → α → Int} {k : Nat} {L : List α} (h : L.length ≤ k) : blk c k L = isrt c L := by rw [blk, dif_pos (.inr h)]
theorem blk_step {c : α → α → Int} {k : Nat} (hk : 0 < k) (L : List α) : blk c k L = isrt c (L.take k) ++ blk c k (L.drop k) := by
  by_cases h : L.length ≤ k
  · rw [blk_small h, List.take_of_length_le h, List.drop_of_length_le h, blk_small (by simp)]; simp [isrt]
  · rw [blk, dif_neg (by omega)]
theorem blk_app {c : α → α → Int} {k : Nat} (hk : 0 < k) (q : Nat) : ∀ (P Q : List α), P.length = k * q → blk c k (P ++ Q) = blk c k P ++ blk c k Q := by
  induction q with
  | zero =>
    intro P Q h
    have : P = [] := List.length_eq_zero_iff.1 (by omega)
    subst this
    simp [blk_small, isrt]
  | succ q ih =>
    intro P Q h
    rw [Nat.mul_succ] at h
    rw [blk_step hk (P ++ Q), blk_step hk P, List.take_append_of_le_length (by omega), List.drop_append_of_le_length (by omega), ih (P.drop k) Q (by simp; omega), List.append_assoc]
theorem blk_len {c : α → α → Int} {k : Nat} (L : List α) : (blk c k L).length = L.length := by
  fun_induction blk c k L with
  | case1 => exact isrt_len _
  | case2 L h ih => simp only [List.length_append, isrt_len, ih]; simp; omega
theorem blk_mem {c : α → α → Int} {k : Nat} {L : List α} {x : α} (h : x ∈ blk c k L) : x ∈ L := by
  fun_induction blk c k L with
  | case1 => exact isrt_mem.1 h
  | case2 L hh ih =>
    rcases List.mem_append.1 h with h | h
    · exact List.mem_of_mem_take (isrt_mem.1 h)
    · exact List.mem_of_mem_drop (ih h)
/-- one piece more -/
theorem blk_next {c : α → α → Int} {k a : Nat} (hk : 0 < k) {L : List α} (q : Nat) (ha : a = k * q) (h : a + k ≤ L.length) : blk c k (L.take (a + k)) = blk c k (L.take a) ++ isrt c ((L.drop a).take k) := by
  rw [List.take_add, blk_app hk q _ _ (by simp; omega), blk_small (L := (L.drop a).take k) (by simp; omega)]
theorem blk_last {c : α → α → Int} {k a : Nat} (hk : 0 < k) {L : List α} (q : Nat) (ha : a = k * q) (h : a ≤ L.length) (h2 : L.length ≤ a + k) : blk c k L = blk c k (L.take a) ++ isrt c (L.drop a) := by
  conv => lhs; rw [← List.take_append_drop a L]
  rw [blk_app hk q _ _ (by simp; omega), blk_small (L := L.drop a) (by simp; omega)]
/-! rows in cells -/
def rowE (E : α → List AV) (L : List α) : List AV := L.flatMap E
variable {E : α → List AV} {sz : Nat}
theorem rowE_len (hE : ∀ x, (E x).length = sz) (L : List α) : (rowE E L).length = L.length * sz := by
  induction L with
  | nil => simp [rowE]
  | cons a L ih => simp only [rowE, List.flatMap_cons, List.length_append, List.length_cons, hE] at ih ⊢; rw [ih, Nat.add_mul]; omega
theorem rowE_split (hE : ∀ x, (E x).length = sz) {L : List α} {i : Nat} {x : α} (h : L[i]? = some x) :
    (rowE E L).take (i * sz) = rowE E (L.take i) ∧ (rowE E L).drop (i * sz) = E x ++ rowE E (L.drop (i + 1)) := by
  have hl : i < L.length := (List.getElem?_eq_some_iff.1 h).1
  have hd : L.drop i = x :: L.drop (i + 1) := by rw [List.drop_eq_getElem_cons hl]; congr 1; exact (List.getElem?_eq_some_iff.1 h).2
  have e : rowE E L = rowE E (L.take i) ++ rowE E (L.drop i) := by
    conv => lhs; rw [← List.take_append_drop i L]
    unfold rowE; rw [List.flatMap_append]
  have e1 : (rowE E (L.take i)).length = i * sz := by rw [rowE_len hE]; simp; rw [Nat.min_eq_left (by omega)]
  constructor
  · rw [e, ← e1, List.take_left]
  · rw [e, ← e1, List.drop_left, hd]; rfl
theorem rowE_get (hE : ∀ x, (E x).length = sz) (hd : ∀ x, (E x).map dem = E x) {L : List α} {i : Nat} {x : α} (h : L[i]? = some x) : (((rowE E L).drop (i * sz)).take sz).map dem = E x := by
  rw [(rowE_split hE h).2, ← hE x, List.take_left, hd]
theorem rowE_set (hE : ∀ x, (E x).length = sz) {L : List α} {i : Nat} {y : α} (h : i < L.length) :
    (rowE E L).take (i * sz) ++ (E y ++ (rowE E L).drop (i * sz + sz)) = rowE E (L.set i y) := by
  obtain ⟨x, hx⟩ : ∃ x, L[i]? = some x := ⟨_, List.getElem?_eq_getElem h⟩
  have := rowE_split hE hx
  rw [this.1, ← List.drop_drop, this.2, List.drop_left' (hE x), List.set_eq_take_append_cons_drop, if_pos h]
  unfold rowE; rw [List.flatMap_append, List.flatMap_cons]
theorem lowL_rowE {n : Nat} (hE : ∀ x, lowL n (E x)) (L : List α) : lowL n (rowE E L) := by
  induction L with
  | nil => trivial
  | cons a L ih => unfold rowE at *; rw [List.flatMap_cons, lowL_append]; exact ⟨hE a, ih⟩
theorem lowS_setset {σ : List (List AV)} {b : Nat} {X Y : List AV} (h : lowL σ.length Y) : lowS (σ.set b X) (σ.set b Y) := by
  intro b' hb
  by_cases q : b = b'
  · subst q; exact .inr ⟨Y, by simp at hb; simp [hb], by simpa using h⟩
  · exact .inl (by rw [List.getElem?_set, if_neg q, List.getElem?_set, if_neg q])
end
end Go.AI
end
