/- Part 4 of a proof: a Go function is evaluated on abstract values (texts PlOrd .. AiArg2); no conditions beyond those of each theorem. -/
import Derived.Test.YtmikahmnomfacaaGreatDoorAi3
import Derived.Lib.Bytealg
import GoSem.Op.String
import Derived.OpenShut
import Derived.Carry
import Derived.Deep.Slices
import Derived.ChangeOld
import Derived.Lib.LaidTab
import Derived.ChangeSame
import Derived.Deep.Strs
import Derived.Lib.SmallJoins
set_option linter.all false
set_option linter.unusedVariables false
set_option linter.unusedSimpArgs false
set_option linter.unnecessarySimpa false
section
/- Orders: plain. No program is in sight. -/
namespace Go.AI

/-- a comparison that is an order, and tells apart -/
structure TO {α : Type} (c : α → α → Int) : Prop where
  sgn : ∀ a b, c a b = -1 ∨ c a b = 0 ∨ c a b = 1
  flip : ∀ a b, c b a = - c a b
  trans : ∀ a b d, c a b ≤ 0 → c b d ≤ 0 → c a d ≤ 0
  eq : ∀ a b, c a b = 0 → a = b

namespace TO
variable {α β : Type} {c : α → α → Int} {d : β → β → Int}
theorem refl (h : TO c) (a : α) : c a a = 0 := by have := h.flip a a; omega
theorem eq_iff (h : TO c) (a b : α) : c a b = 0 ↔ a = b := ⟨h.eq a b, fun e => by subst e; exact h.refl a⟩
theorem lt_le (h : TO c) {a b e : α} (h1 : c a b < 0) (h2 : c b e ≤ 0) : c a e < 0 := by
  have h3 := h.trans a b e (by omega) h2
  rcases Int.lt_or_eq_of_le h3 with q | q
  · exact q
  · have := h.eq _ _ q; subst this
    have := h.flip a b; omega
theorem le_lt (h : TO c) {a b e : α} (h1 : c a b ≤ 0) (h2 : c b e < 0) : c a e < 0 := by
  have h3 := h.trans a b e h1 (by omega)
  rcases Int.lt_or_eq_of_le h3 with q | q
  · exact q
  · have := h.eq _ _ q; subst this
    have := h.flip a b; omega
theorem comap (h : TO c) (f : β → α) (hf : ∀ x y, f x = f y → x = y) : TO fun x y => c (f x) (f y) :=
  ⟨fun _ _ => h.sgn _ _, fun _ _ => h.flip _ _, fun _ _ _ => h.trans _ _ _, fun _ _ e => hf _ _ (h.eq _ _ e)⟩
end TO

def orI (x y : Int) : Int := if x = 0 then y else x
theorem TO.prod {α β : Type} {c : α → α → Int} {d : β → β → Int} (h : TO c) (k : TO d) : TO fun (x y : α × β) => orI (c x.1 y.1) (d x.2 y.2) := by
  refine ⟨fun a b => ?_, fun a b => ?_, fun a b e => ?_, fun a b => ?_⟩
  · unfold orI; split; exact k.sgn _ _; exact h.sgn _ _
  · unfold orI
    have := h.flip a.1 b.1; have := k.flip a.2 b.2
    split <;> split <;> omega
  · intro h1 h2
    unfold orI at h1 h2 ⊢
    by_cases q1 : c a.1 b.1 = 0
    · rw [if_pos q1] at h1
      have e1 := h.eq _ _ q1
      by_cases q2 : c b.1 e.1 = 0
      · rw [if_pos q2] at h2
        have e2 := h.eq _ _ q2
        rw [e1, e2, h.refl, if_pos rfl]
        exact k.trans _ _ _ h1 h2
      · rw [if_neg q2] at h2
        rw [e1, if_neg q2]; exact h2
    · rw [if_neg q1] at h1
      by_cases q2 : c b.1 e.1 = 0
      · have e2 := h.eq _ _ q2
        rw [← e2, if_neg q1]; exact h1
      · rw [if_neg q2] at h2
        have := h.lt_le (a := a.1) (b := b.1) (e := e.1) (by omega) h2
        rw [if_neg (by omega)]; omega
  · intro e
    unfold orI at e
    split at e
    · rename_i q; exact Prod.ext (h.eq _ _ q) (k.eq _ _ e)
    · rename_i q; exact absurd e q

def natC (a b : Nat) : Int := if a < b then -1 else if b < a then 1 else 0
theorem TO.nat : TO natC := by
  refine ⟨fun a b => ?_, fun a b => ?_, fun a b e => ?_, fun a b => ?_⟩ <;> unfold natC <;> (repeat' split) <;> omega
def u8C (a b : UInt8) : Int := natC a.toNat b.toNat
theorem TO.u8 : TO u8C := TO.nat.comap UInt8.toNat fun _ _ e => UInt8.toNat_inj.1 e

/-- lists, by their first unlike members; a shorter one ahead -/
def lexC {α : Type} (c : α → α → Int) : List α → List α → Int
  | [], [] => 0
  | [], _ :: _ => -1
  | _ :: _, [] => 1
  | a :: x, b :: y => orI (c a b) (lexC c x y)
theorem TO.lex {α : Type} {c : α → α → Int} (h : TO c) : TO (lexC c) := by
  refine ⟨fun a => ?_, fun a => ?_, fun a => ?_, fun a => ?_⟩
  · induction a with
    | nil => intro b; cases b <;> simp [lexC]
    | cons a x ih =>
      intro b
      cases b with
      | nil => simp [lexC]
      | cons b y => simp only [lexC, orI]; split; exact ih y; exact h.sgn _ _
  · induction a with
    | nil => intro b; cases b <;> simp [lexC]
    | cons a x ih =>
      intro b
      cases b with
      | nil => simp [lexC]
      | cons b y =>
        simp only [lexC, orI]
        have := ih y; have := h.flip a b
        split <;> split <;> omega
  · induction a with
    | nil => intro b e h1 h2; cases b <;> cases e <;> simp [lexC] at *
    | cons a x ih =>
      intro b e h1 h2
      cases b with
      | nil => simp [lexC] at h1
      | cons b y =>
        cases e with
        | nil => simp [lexC] at h2
        | cons e z =>
          simp only [lexC, orI] at h1 h2 ⊢
          by_cases q1 : c a b = 0
          · rw [if_pos q1] at h1
            have e1 := h.eq _ _ q1; subst e1
            split at h2
            · rename_i q2; rw [if_pos q2]; exact ih _ _ h1 h2
            · rename_i q2; rw [if_neg q2]; exact h2
          · rw [if_neg q1] at h1
            by_cases q2 : c b e = 0
            · have e2 := h.eq _ _ q2; subst e2; rw [if_neg q1]; exact h1
            · rw [if_neg q2] at h2
              have := h.lt_le (a := a) (b := b) (e := e) (by omega) h2
              rw [if_neg (by omega)]; omega
  · induction a with
    | nil => intro b e; cases b with
      | nil => rfl
      | cons => simp [lexC] at e
    | cons a x ih =>
      intro b e
      cases b with
      | nil => simp [lexC] at e
      | cons b y =>
        simp only [lexC, orI] at e
        split at e
        · rename_i q; rw [h.eq _ _ q, ih _ e]
        · rename_i q; exact absurd e q
/-- texts -/
def bytesC : List UInt8 → List UInt8 → Int := lexC u8C
theorem TO.bytes : TO bytesC := TO.u8.lex
end Go.AI
end
section
/- Texts: places of a byte, pieces. Plain: no program is in sight. -/
namespace Go.AI

/-- the first place of a byte -/
def ix (c : UInt8) : List UInt8 → Option Nat
  | [] => none
  | b :: r => if b = c then some 0 else (ix c r).map (· + 1)
def ixI (c : UInt8) (l : List UInt8) : Int := match ix c l with
  | some n => n
  | none => -1
theorem indexByte_eq (l : List UInt8) (c : UInt8) : Lib.indexByte l c = ixI c l := by
  induction l with
  | nil => rfl
  | cons b r ih =>
    simp only [Lib.indexByte, ih, ixI, ix, beq_iff_eq]
    split
    · rfl
    · cases ix c r with
      | none => rfl
      | some n => simp only [Option.map_some]; rw [if_neg (by omega)]; omega
theorem ix_none {c : UInt8} {l : List UInt8} : ix c l = none ↔ c ∉ l := by
  induction l with
  | nil => simp [ix]
  | cons b r ih =>
    simp only [ix, List.mem_cons, not_or]
    split
    · rename_i h; simp [h]
    · rename_i h
      rw [Option.map_eq_none_iff, ih]
      exact ⟨fun q => ⟨fun e => h e.symm, q⟩, fun q => q.2⟩
theorem ix_some {c : UInt8} {l : List UInt8} {n : Nat} (h : ix c l = some n) : n < l.length ∧ l[n]? = some c ∧ c ∉ l.take n ∧ l = l.take n ++ c :: l.drop (n + 1) := by
  induction l generalizing n with
  | nil => simp [ix] at h
  | cons b r ih =>
    simp only [ix] at h
    split at h
    · rename_i e; subst e; injection h with h; subst h; simp
    · rename_i e
      obtain ⟨m, hm, rfl⟩ := Option.map_eq_some_iff.1 h
      obtain ⟨h1, h2, h3, h4⟩ := ih hm
      refine ⟨by simp; omega, by simpa using h2, ?_, ?_⟩
      · simp only [List.take_succ_cons, List.mem_cons, not_or]; exact ⟨fun q => e q.symm, h3⟩
      · simp only [List.take_succ_cons, List.drop_succ_cons, List.cons_append]; rw [← h4]
theorem ix_app {c : UInt8} {x y : List UInt8} (h : c ∉ x) : ix c (x ++ c :: y) = some x.length := by
  induction x with
  | nil => simp [ix]
  | cons b r ih =>
    simp only [List.mem_cons, not_or] at h
    simp only [List.cons_append, ix, if_neg (fun q => h.1 (Eq.symm q)), ih h.2, Option.map_some, List.length_cons]

/-- before and behind the first place -/
def cutB (c : UInt8) (l : List UInt8) : List UInt8 × List UInt8 × Bool := match ix c l with
  | some n => (l.take n, l.drop (n + 1), true)
  | none => (l, [], false)
/-- the pieces between -/
def splitB (c : UInt8) : List UInt8 → List (List UInt8)
  | [] => [[]]
  | b :: r => if b = c then [] :: splitB c r else match splitB c r with
    | [] => [[b]]
    | h :: t => (b :: h) :: t
theorem splitB_ne (c : UInt8) (l : List UInt8) : splitB c l ≠ [] := by
  cases l with
  | nil => simp [splitB]
  | cons b r => simp only [splitB]; split; simp; split <;> simp
theorem splitB_not {c : UInt8} {l : List UInt8} (h : c ∉ l) : splitB c l = [l] := by
  induction l with
  | nil => rfl
  | cons b r ih =>
    simp only [List.mem_cons, not_or] at h
    simp only [splitB, if_neg (fun q => h.1 (Eq.symm q)), ih h.2]
theorem splitB_app {c : UInt8} {x y : List UInt8} (h : c ∉ x) : splitB c (x ++ c :: y) = x :: splitB c y := by
  induction x with
  | nil => simp [splitB]
  | cons b r ih =>
    simp only [List.mem_cons, not_or] at h
    simp only [List.cons_append, splitB, if_neg (fun q => h.1 (Eq.symm q)), ih h.2]
theorem splitB_ix {c : UInt8} {l : List UInt8} {n : Nat} (h : ix c l = some n) : splitB c l = l.take n :: splitB c (l.drop (n + 1)) := by
  obtain ⟨h1, h2, h3, h4⟩ := ix_some h
  conv => lhs; rw [h4]
  exact splitB_app h3
theorem splitB_none {c : UInt8} {l : List UInt8} (h : ix c l = none) : splitB c l = [l] := splitB_not (ix_none.1 h)
theorem splitB_len (c : UInt8) (l : List UInt8) : (splitB c l).length = Lib.countByte l c + 1 := by
  induction l with
  | nil => rfl
  | cons b r ih =>
    simp only [splitB, Lib.countByte] at ih ⊢
    by_cases e : b = c
    · subst e; simp [ih]
    · rw [if_neg e, List.count_cons_of_ne e, ← ih]
      have := splitB_ne c r
      split
      · rename_i q; exact absurd q this
      · rename_i q; rw [q]; simp
theorem splitB_mem {c : UInt8} {l x : List UInt8} (h : x ∈ splitB c l) : c ∉ x := by
  induction l generalizing x with
  | nil => simp [splitB] at h; subst h; simp
  | cons b r ih =>
    simp only [splitB] at h
    split at h
    · rcases List.mem_cons.1 h with rfl | h
      · simp
      · exact ih h
    · rename_i e
      split at h
      · rename_i q; exact absurd q (splitB_ne _ _)
      · rename_i h0 t q
        rcases List.mem_cons.1 h with rfl | h
        · simp only [List.mem_cons, not_or]; exact ⟨fun q => e q.symm, ih (q ▸ List.mem_cons_self)⟩
        · exact ih (q ▸ List.mem_cons_of_mem _ h)
def joinB (c : UInt8) : List (List UInt8) → List UInt8
  | [] => []
  | [x] => x
  | x :: r => x ++ c :: joinB c r
theorem joinB_cons (c : UInt8) (x : List UInt8) {r : List (List UInt8)} (h : r ≠ []) : joinB c (x :: r) = x ++ c :: joinB c r := by
  cases r with
  | nil => exact absurd rfl h
  | cons => rfl
theorem join_split (c : UInt8) (l : List UInt8) : joinB c (splitB c l) = l := by
  induction l with
  | nil => rfl
  | cons b r ih =>
    simp only [splitB]
    split
    · rename_i e; rw [joinB_cons _ _ (splitB_ne _ _), ih, e]; rfl
    · split
      · rename_i q; exact absurd q (splitB_ne _ _)
      · rename_i h t q
        rw [q] at ih
        cases t with
        | nil => simp only [joinB] at ih ⊢; rw [ih]
        | cons y z => rw [joinB_cons _ _ (by simp)] at ih ⊢; rw [← ih]; rfl
theorem split_join {c : UInt8} {l : List (List UInt8)} (h0 : l ≠ []) (h : ∀ x ∈ l, c ∉ x) : splitB c (joinB c l) = l := by
  induction l with
  | nil => exact absurd rfl h0
  | cons x r ih =>
    cases r with
    | nil => exact splitB_not (h x (by simp))
    | cons y z =>
      rw [joinB_cons _ _ (by simp), splitB_app (h x (by simp)), ih (by simp) fun w hw => h w (List.mem_cons_of_mem _ hw)]

/-- the last place of a byte -/
def lix (c : UInt8) : List UInt8 → Option Nat
  | [] => none
  | b :: r => match lix c r with
    | some n => some (n + 1)
    | none => if b = c then some 0 else none
def lixI (c : UInt8) (l : List UInt8) : Int := match lix c l with
  | some n => n
  | none => -1
theorem lix_snoc (c b : UInt8) (l : List UInt8) : lix c (l ++ [b]) = if b = c then some l.length else lix c l := by
  induction l with
  | nil => simp [lix]
  | cons a r ih =>
    simp only [List.cons_append, lix, ih]
    by_cases e : b = c
    · simp [e]
    · simp [e]
theorem lix_some {c : UInt8} {l : List UInt8} {n : Nat} (h : lix c l = some n) : n < l.length ∧ l[n]? = some c ∧ c ∉ l.drop (n + 1) ∧ l = l.take n ++ c :: l.drop (n + 1) := by
  induction l generalizing n with
  | nil => simp [lix] at h
  | cons b r ih =>
    simp only [lix] at h
    split at h
    · rename_i m hm
      injection h with h; subst h
      obtain ⟨h1, h2, h3, h4⟩ := ih hm
      refine ⟨by simp; omega, by simpa using h2, by simpa using h3, ?_⟩
      simp only [List.take_succ_cons, List.drop_succ_cons, List.cons_append]; rw [← h4]
    · rename_i hm
      split at h
      · rename_i e; injection h with h; subst h; subst e
        have : ∀ {l : List UInt8}, lix b l = none → b ∉ l := by
          intro l
          induction l with
          | nil => simp
          | cons a s ih =>
            simp only [lix]
            split
            · intro q; cases q
            · rename_i q; split
              · intro q; cases q
              · rename_i e; intro _; simp only [List.mem_cons, not_or]; exact ⟨fun w => e w.symm, ih q⟩
        simp [this hm]
      · cases h
theorem lix_none {c : UInt8} {l : List UInt8} : lix c l = none ↔ c ∉ l := by
  induction l with
  | nil => simp [lix]
  | cons b r ih =>
    simp only [lix, List.mem_cons, not_or]
    cases hq : lix c r with
    | none =>
      rw [hq] at ih
      simp only [true_iff] at ih
      by_cases e : b = c
      · simp [e]
      · simp only [if_neg e, true_iff]; exact ⟨fun w => e w.symm, ih⟩
    | some n =>
      rw [hq] at ih
      simp only [reduceCtorEq, false_iff] at ih ⊢
      exact fun q => ih q.2
/-- the last piece stands behind the last place -/
theorem splitB_last (c : UInt8) (l : List UInt8) : (splitB c l).getLast (splitB_ne c l) = match lix c l with
    | some n => l.drop (n + 1)
    | none => l := by
  induction l with
  | nil => rfl
  | cons b r ih =>
    have hne := splitB_ne c r
    by_cases e : b = c
    · have h1 : splitB c (b :: r) = [] :: splitB c r := by simp [splitB, e]
      have h2 : (splitB c (b :: r)).getLast (splitB_ne c _) = (splitB c r).getLast hne := by
        simp only [h1]; rw [List.getLast_cons hne]
      rw [h2, ih]
      simp only [lix, e, if_true]
      cases lix c r <;> simp
    · obtain ⟨h, t, q⟩ : ∃ h t, splitB c r = h :: t := by cases hq : splitB c r with
        | nil => exact absurd hq hne
        | cons h t => exact ⟨h, t, rfl⟩
      have h1 : splitB c (b :: r) = (b :: h) :: t := by simp [splitB, e, q]
      simp only [q] at ih
      simp only [h1, lix, if_neg e]
      cases t with
      | nil =>
        simp only [List.getLast_singleton] at ih ⊢
        cases hl : lix c r with
        | none => rw [hl] at ih; simp only at ih ⊢; rw [ih]
        | some n =>
          rw [hl] at ih; simp only at ih
          have h3 := lix_some hl
          have h4 : c ∈ r := List.mem_of_getElem? h3.2.1
          have h5 : Lib.countByte r c + 1 = 1 := by rw [← splitB_len, q]; rfl
          have h6 := List.count_pos_iff.2 h4
          unfold Lib.countByte at h5; omega
      | cons y z =>
        rw [List.getLast_cons (by simp)] at ih ⊢
        rw [ih]
        cases hl : lix c r with
        | none =>
          rw [hl] at ih
          have h4 := splitB_not (lix_none.1 hl)
          rw [q] at h4; simp at h4
        | some n => simp

/-! The order of texts. -/
theorem compareBytes_eq (a b : List UInt8) : Lib.compareBytes a b = bytesC a b := by
  induction a generalizing b with
  | nil => cases b <;> rfl
  | cons x a ih =>
    cases b with
    | nil => rfl
    | cons y b =>
      simp only [Lib.compareBytes, ih, bytesC, lexC, orI, u8C, natC, UInt8.lt_iff_toNat_lt]
      by_cases h1 : x.toNat < y.toNat
      · simp [h1]
      · by_cases h2 : y.toNat < x.toNat
        · simp [h1, h2]
        · simp [h1, h2]
theorem bytesLess_eq (a b : List UInt8) : Op.bytesLess a b = decide (bytesC a b < 0) := by
  induction a generalizing b with
  | nil => cases b <;> simp [Op.bytesLess, bytesC, lexC]
  | cons x a ih =>
    cases b with
    | nil => simp [Op.bytesLess, bytesC, lexC]
    | cons y b =>
      simp only [Op.bytesLess, ih, bytesC, lexC, orI, u8C, natC, UInt8.lt_iff_toNat_lt, beq_iff_eq]
      by_cases h1 : x.toNat < y.toNat
      · simp [h1]
      · by_cases h2 : y.toNat < x.toNat
        · have : ¬ x = y := by rintro rfl; omega
          simp [h1, h2, this]
        · have : x = y := UInt8.toNat_inj.1 (by omega)
          subst this
          simp only [UInt8.lt_irrefl, Nat.lt_irrefl, if_false, decide_false, Bool.false_or, true_and, if_true, decide_true, Bool.true_and, beq_self_eq_true]
          rfl
end Go.AI
namespace Go.AI
theorem splitB_le {c : UInt8} {l x : List UInt8} (h : x ∈ splitB c l) : x.length ≤ l.length := by
  induction l generalizing x with
  | nil => simp [splitB] at h; subst h; simp
  | cons b r ih =>
    simp only [splitB] at h
    split at h
    · rcases List.mem_cons.1 h with rfl | h
      · simp
      · have := ih h; simp; omega
    · split at h
      · rename_i q; exact absurd q (splitB_ne _ _)
      · rename_i h0 t q
        rcases List.mem_cons.1 h with rfl | h
        · have := ih (x := h0) (q ▸ List.mem_cons_self); simp; omega
        · have := ih (q ▸ List.mem_cons_of_mem _ h); simp; omega
theorem splitB_many (c : UInt8) (l : List UInt8) : (splitB c l).length ≤ l.length + 1 := by
  rw [splitB_len]; have : Lib.countByte l c ≤ l.length := List.count_le_length; omega
theorem cutB_le (c : UInt8) (l : List UInt8) : (cutB c l).1.length ≤ l.length ∧ (cutB c l).2.1.length ≤ l.length := by
  unfold cutB
  split
  · simp; omega
  · simp
end Go.AI
end
section
/- The parts of a log's tree: plain. -/
namespace Go.AI
def halfW (n s : Nat) : Nat := if h : 2 * s < n ∧ 0 < s then halfW n (2 * s) else s
termination_by n - s
decreasing_by omega
def halfN (n : Nat) : Nat := halfW n 1
theorem halfW_spec (n : Nat) : ∀ s, 0 < s → s < n → s ≤ halfW n s ∧ halfW n s < n ∧ n ≤ 2 * halfW n s := by
  intro s
  induction hd : n - s using Nat.strongRecOn generalizing s with
  | _ d ih =>
    intro h0 h1
    rw [halfW]
    split
    · rename_i h
      have := ih (n - 2 * s) (by omega) (2 * s) rfl (by omega) h.1
      omega
    · omega
theorem halfN_spec {n : Nat} (h : 2 ≤ n) : 1 ≤ halfN n ∧ halfN n < n ∧ n ≤ 2 * halfN n := halfW_spec n 1 (by omega) (by omega)
/-- the parts that the proof of a record names -/
def pathN (i frm n : Nat) : List (Nat × Nat) := if h : 2 ≤ n then
    (if i < halfN n then pathN i frm (halfN n) ++ [(frm + halfN n, n - halfN n)] else pathN (i - halfN n) (frm + halfN n) (n - halfN n) ++ [(frm, halfN n)]) else []
termination_by n
decreasing_by
  · exact (halfN_spec h).2.1
  · have := halfN_spec h; omega
theorem pathN_len (n : Nat) : ∀ i a b, (pathN i a n).length = (pathN i b n).length := by
  induction n using Nat.strongRecOn with
  | _ n ih =>
    intro i a b
    rw [pathN.eq_def i a n, pathN.eq_def i b n]
    split
    · rename_i h
      have := halfN_spec h
      split
      · simp only [List.length_append, ih _ this.2.1 i a b, List.length_cons, List.length_nil]
      · simp only [List.length_append, ih (n - halfN n) (by omega) (i - halfN n) (a + halfN n) (b + halfN n), List.length_cons, List.length_nil]
    · rfl
def stepsN (i n : Nat) : Nat := (pathN i 0 n).length
theorem pathN_le (n : Nat) : ∀ i a, (pathN i a n).length ≤ n := by
  induction n using Nat.strongRecOn with
  | _ n ih =>
    intro i a
    rw [pathN.eq_def]
    split
    · rename_i h
      have := halfN_spec h
      split
      · have := ih _ this.2.1 i a; simp; omega
      · have := ih (n - halfN n) (by omega) (i - halfN n) (a + halfN n); simp; omega
    · simp
/-- the parts that the proof of a longer log names -/
def subN (m frm n : Nat) (w : Bool) : List (Nat × Nat) := if h : m < n ∧ 0 < m then
    (if m ≤ halfN n then subN m frm (halfN n) w ++ [(frm + halfN n, n - halfN n)] else subN (m - halfN n) (frm + halfN n) (n - halfN n) false ++ [(frm, halfN n)])
  else if w then [] else [(frm, n)]
termination_by n
decreasing_by
  · exact (halfN_spec (by omega)).2.1
  · have := halfN_spec (n := n) (by omega); omega
theorem subN_len (n : Nat) : ∀ m a b w, (subN m a n w).length = (subN m b n w).length := by
  induction n using Nat.strongRecOn with
  | _ n ih =>
    intro m a b w
    rw [subN.eq_def m a n, subN.eq_def m b n]
    split
    · rename_i h
      have := halfN_spec (n := n) (by omega)
      split
      · simp only [List.length_append, ih _ this.2.1 m a b, List.length_cons, List.length_nil]
      · simp only [List.length_append, ih (n - halfN n) (by omega) (m - halfN n) (a + halfN n) (b + halfN n), List.length_cons, List.length_nil]
    · split <;> rfl
theorem subN_le (n : Nat) : ∀ m a w, (subN m a n w).length ≤ n + 1 := by
  induction n using Nat.strongRecOn with
  | _ n ih =>
    intro m a w
    rw [subN.eq_def]
    split
    · rename_i h
      have := halfN_spec (n := n) (by omega)
      split
      · have := ih _ this.2.1 m a w; simp; omega
      · have := ih (n - halfN n) (by omega) (m - halfN n) (a + halfN n) false; simp; omega
    · split <;> simp
end Go.AI
namespace Go.AI
section
variable (nodeB : List UInt8 → List UInt8 → List UInt8)
/-- the hash that a leaf and its path make -/
def climbB (p : List (List UInt8)) (i n : Nat) (leaf : List UInt8) : List UInt8 := if h : 2 ≤ n then
    (if i < halfN n then nodeB (climbB (p.take (p.length - 1)) i (halfN n) leaf) (p.getD (p.length - 1) [])
      else nodeB (p.getD (p.length - 1) []) (climbB (p.take (p.length - 1)) (i - halfN n) (n - halfN n) leaf)) else leaf
termination_by n
decreasing_by
  · exact (halfN_spec h).2.1
  · have := halfN_spec h; omega
/-- the two hashes that a proof of a longer log makes -/
def growB (p : List (List UInt8)) (m n : Nat) (w : Bool) (old : List UInt8) : List UInt8 × List UInt8 := if h : m < n ∧ 0 < m then
    (if m ≤ halfN n then ((growB (p.take (p.length - 1)) m (halfN n) w old).1, nodeB (growB (p.take (p.length - 1)) m (halfN n) w old).2 (p.getD (p.length - 1) []))
      else (nodeB (p.getD (p.length - 1) []) (growB (p.take (p.length - 1)) (m - halfN n) (n - halfN n) false old).1, nodeB (p.getD (p.length - 1) []) (growB (p.take (p.length - 1)) (m - halfN n) (n - halfN n) false old).2))
  else if w then (old, old) else (p.getD 0 [], p.getD 0 [])
termination_by n
decreasing_by
  · exact (halfN_spec (by omega)).2.1
  · have := halfN_spec (n := n) (by omega); omega
end
theorem stepsN_pos {i n : Nat} (h : 2 ≤ n) : stepsN i n = (if i < halfN n then stepsN i (halfN n) else stepsN (i - halfN n) (n - halfN n)) + 1 := by
  unfold stepsN
  rw [pathN, dif_pos h]
  split
  · simp
  · simp; exact pathN_len _ _ _ _
theorem stepsN_one {i n : Nat} (h : ¬ 2 ≤ n) : stepsN i n = 0 := by unfold stepsN; rw [pathN, dif_neg h]; rfl
def subStepsN (m n : Nat) (w : Bool) : Nat := (subN m 0 n w).length
theorem subStepsN_pos {m n : Nat} {w : Bool} (h : m < n ∧ 0 < m) : subStepsN m n w = (if m ≤ halfN n then subStepsN m (halfN n) w else subStepsN (m - halfN n) (n - halfN n) false) + 1 := by
  unfold subStepsN
  rw [subN, dif_pos h]
  split
  · simp
  · simp; exact subN_len _ _ _ _ _
theorem subStepsN_end {m n : Nat} {w : Bool} (h : ¬ (m < n ∧ 0 < m)) : subStepsN m n w = if w then 0 else 1 := by
  unfold subStepsN; rw [subN, dif_neg h]; split <;> rfl
end Go.AI
end
section
/- A log's rows of hashes: plain. -/
namespace Go.AI
section
variable {α : Type} (d : α) (node : α → α → α) (L : Nat → α)
/-- a hash laid behind a row, and what it ends -/
def pushB (node : α → α → α) (d : α) : List (List α) → α → List (List α)
  | [], h => [[h]]
  | r :: rs, h => if r.length % 2 = 0 then (r ++ [h]) :: rs else (r ++ [h]) :: pushB node d rs (node (r.getLast?.getD d) h)
/-- the hash of a whole tree -/
def wholeT (node : α → α → α) (L : Nat → α) : Nat → Nat → α
  | 0, k => L k
  | l + 1, k => node (wholeT node L l (2 * k)) (wholeT node L l (2 * k + 1))
def rowT (node : α → α → α) (L : Nat → α) (l m : Nat) : List α := (List.range m).map (wholeT node L l)
/-- the rows from a level on -/
def upT (node : α → α → α) (L : Nat → α) (l m : Nat) : List (List α) := if h : m / 2 = 0 then [rowT node L l m] else rowT node L l m :: upT node L (l + 1) (m / 2)
termination_by m
decreasing_by omega
variable {d node L}
theorem rowT_len {l m : Nat} : (rowT node L l m).length = m := by simp [rowT]
theorem rowT_succ {l m : Nat} : rowT node L l (m + 1) = rowT node L l m ++ [wholeT node L l m] := by simp [rowT, List.range_succ]
theorem rowT_get {l m k : Nat} (h : k < m) : (rowT node L l m)[k]? = some (wholeT node L l k) := by simp [rowT, h]
theorem rowT_last {l m : Nat} (h : 0 < m) : (rowT node L l m).getLast?.getD d = wholeT node L l (m - 1) := by
  obtain ⟨k, rfl⟩ : ∃ k, m = k + 1 := ⟨m - 1, by omega⟩
  rw [rowT_succ]; simp
theorem push_up (m : Nat) : ∀ l, pushB node d (upT node L l m) (wholeT node L l m) = upT node L l (m + 1) := by
  induction m using Nat.strongRecOn with
  | _ m ih =>
    intro l
    rw [upT.eq_def node L l m, upT.eq_def node L l (m + 1)]
    by_cases he : m % 2 = 0
    · have e : (m + 1) / 2 = m / 2 := by omega
      split <;> rename_i h0 <;> simp only [e, h0, dite_true, dite_false] <;> rw [pushB, rowT_len, if_pos he, rowT_succ]
    · have hlast := rowT_last (d := d) (node := node) (L := L) (l := l) (m := m) (by omega)
      have hw : node (wholeT node L l (m - 1)) (wholeT node L l m) = wholeT node L (l + 1) (m / 2) := by
        rw [wholeT]; congr 2 <;> omega
      have e : ¬ (m + 1) / 2 = 0 := by omega
      rw [dif_neg e]
      split
      · rename_i h0
        have hm : m = 1 := by omega
        subst hm
        rw [pushB, rowT_len, if_neg he, hlast, hw, rowT_succ (m := 1), pushB]
        simp [upT, rowT]
      · rename_i h0
        have e2 : (m + 1) / 2 = m / 2 + 1 := by omega
        rw [pushB, rowT_len, if_neg he, hlast, hw, ih (m / 2) (by omega), e2, rowT_succ]
theorem upT_pos {l m : Nat} : upT node L l m ≠ [] := by rw [upT]; split <;> simp
theorem upT_get (j : Nat) : ∀ l m, (upT node L l m)[j]? = if j = 0 ∨ m / 2 ^ j ≠ 0 then some (rowT node L (l + j) (m / 2 ^ j)) else none := by
  induction j with
  | zero => intro l m; rw [upT]; split <;> simp
  | succ j ih =>
    intro l m
    have e2 : m / 2 ^ (j + 1) = m / 2 / 2 ^ j := by rw [Nat.pow_succ, Nat.mul_comm, Nat.div_div_eq_div_mul]
    rw [upT]
    split
    · rename_i h0
      rw [List.getElem?_cons_succ, e2, h0, if_neg (by simp)]; rfl
    · rename_i h0
      rw [List.getElem?_cons_succ, ih, e2]
      have e1 : l + 1 + j = l + (j + 1) := by omega
      rw [e1]
      by_cases hj : j = 0
      · subst hj; simp [h0]
      · simp [hj]
theorem upT_len_pos {l m j : Nat} (h : j = 0 ∨ m / 2 ^ j ≠ 0) : j < (upT node L l m).length := by
  have := upT_get (node := node) (L := L) j l m
  rw [if_pos h] at this
  exact (List.getElem?_eq_some_iff.1 this).1
theorem upT_len_neg {l m j : Nat} (h : ¬ (j = 0 ∨ m / 2 ^ j ≠ 0)) : (upT node L l m).length ≤ j := by
  have := upT_get (node := node) (L := L) j l m
  rw [if_neg h] at this
  exact List.getElem?_eq_none_iff.1 this
/-- all rows, by the leaves -/
theorem fold_up (l : List α) (hL : ∀ (i : Nat) (x : α), l[i]? = some x → L i = x) : ∀ k, k ≤ l.length → (l.take k).foldl (pushB node d) [[]] = upT node L 0 k := by
  intro k
  induction k with
  | zero => intro _; simp [upT, rowT]
  | succ k ih =>
    intro hk
    obtain ⟨x, hx⟩ : ∃ x, l[k]? = some x := ⟨_, List.getElem?_eq_getElem (by omega)⟩
    rw [List.take_add_one, hx, List.foldl_append, ih (by omega)]
    have := push_up (node := node) (d := d) (L := L) k 0
    rw [wholeT, hL k x hx] at this
    exact this
/-- the hash of records from one on -/
def spanT (node : α → α → α) (L : Nat → α) (f n : Nat) : α := if h : 2 ≤ n then node (spanT node L f (halfN n)) (spanT node L (f + halfN n) (n - halfN n)) else L f
termination_by n
decreasing_by
  · exact (halfN_spec h).2.1
  · have := halfN_spec h; omega
theorem halfW_pow (n : Nat) : ∀ a, ∃ b, halfW n (2 ^ a) = 2 ^ b := by
  intro a
  induction hd : n - 2 ^ a using Nat.strongRecOn generalizing a with
  | _ k ih =>
    rw [halfW]
    split
    · rename_i h
      have e : 2 * 2 ^ a = 2 ^ (a + 1) := by rw [Nat.pow_succ]; omega
      rw [e] at h ⊢
      have : 2 ^ (a + 1) = 2 * 2 ^ a := e.symm
      exact ih _ (by have := Nat.two_pow_pos a; omega) (a + 1) rfl
    · exact ⟨a, rfl⟩
theorem halfN_pow (n : Nat) : ∃ b, halfN n = 2 ^ b := halfW_pow n 0
theorem halfN_two (l : Nat) : halfN (2 ^ (l + 1)) = 2 ^ l := by
  obtain ⟨b, hb⟩ := halfN_pow (2 ^ (l + 1))
  have hs := halfN_spec (n := 2 ^ (l + 1)) (by have := Nat.two_pow_pos l; rw [Nat.pow_succ]; omega)
  rw [hb] at hs ⊢
  have h1 : b < l + 1 := (Nat.pow_lt_pow_iff_right (a := 2) (by omega)).1 hs.2.1
  have h2 : l + 1 ≤ b + 1 := (Nat.pow_le_pow_iff_right (a := 2) (by omega)).1 (by rw [Nat.pow_succ 2 b]; omega)
  have : b = l := by omega
  rw [this]
theorem span_whole (l : Nat) : ∀ k, spanT node L (k * 2 ^ l) (2 ^ l) = wholeT node L l k := by
  induction l with
  | zero => intro k; rw [spanT]; simp [wholeT]
  | succ l ih =>
    intro k
    have h2 : 2 ≤ 2 ^ (l + 1) := by have := Nat.two_pow_pos l; rw [Nat.pow_succ]; omega
    have e1 : k * 2 ^ (l + 1) = 2 * k * 2 ^ l := by rw [Nat.pow_succ, Nat.mul_comm (2 ^ l) 2, ← Nat.mul_assoc, Nat.mul_comm k 2]
    have e2 : 2 * k * 2 ^ l + 2 ^ l = (2 * k + 1) * 2 ^ l := by rw [Nat.add_mul]; simp
    have e3 : 2 ^ (l + 1) - 2 ^ l = 2 ^ l := by rw [Nat.pow_succ]; omega
    rw [spanT, dif_pos h2, halfN_two, e3, e1, e2, ih, ih, wholeT]
/-- records that begin where a whole tree as great does -/
def algn (f n : Nat) : Prop := ∃ e, n ≤ 2 ^ e ∧ 2 ^ e ∣ f
theorem algn_zero (n : Nat) : algn 0 n := ⟨n, Nat.le_of_lt Nat.lt_two_pow_self, Nat.dvd_zero _⟩
theorem algn_half {f n : Nat} (h : 2 ≤ n) (ha : algn f n) : algn f (halfN n) ∧ algn (f + halfN n) (n - halfN n) := by
  obtain ⟨e, h1, h2⟩ := ha
  obtain ⟨b, hb⟩ := halfN_pow n
  have hs := halfN_spec h
  rw [hb] at hs ⊢
  have hbe : b ≤ e := Nat.le_of_lt ((Nat.pow_lt_pow_iff_right (a := 2) (by omega)).1 (by omega))
  have hd : 2 ^ b ∣ f := Nat.dvd_trans (Nat.pow_dvd_pow 2 hbe) h2
  exact ⟨⟨b, Nat.le_refl _, hd⟩, ⟨b, by omega, Nat.dvd_add hd (Nat.dvd_refl _)⟩⟩
theorem algn_pow {f l : Nat} (ha : algn f (2 ^ l)) : f = f / 2 ^ l * 2 ^ l := by
  obtain ⟨e, h1, h2⟩ := ha
  have hle : l ≤ e := (Nat.pow_le_pow_iff_right (a := 2) (by omega)).1 h1
  exact (Nat.div_mul_cancel (Nat.dvd_trans (Nat.pow_dvd_pow 2 hle) h2)).symm
end
end Go.AI
end
section
/- Logs and spans of records: plain. -/
namespace Go.AI
section
variable {α : Type} {node : α → α → α}
theorem spanT_congr {L L' : Nat → α} (n : Nat) : ∀ f f', 1 ≤ n → (∀ i, i < n → L (f + i) = L' (f' + i)) → spanT node L f n = spanT node L' f' n := by
  induction n using Nat.strongRecOn with
  | _ n ih =>
    intro f f' h1 h
    rw [spanT.eq_def node L f n, spanT.eq_def node L' f' n]
    split
    · rename_i h2
      have hs := halfN_spec h2
      rw [ih _ hs.2.1 f f' hs.1 (fun i hi => h i (by omega)), ih (n - halfN n) (by omega) (f + halfN n) (f' + halfN n) (by omega) (fun i hi => by have := h (halfN n + i) (by omega); rwa [← Nat.add_assoc, ← Nat.add_assoc] at this)]
    · have := h 0 h1; simpa using this
theorem div_le_of {a b n : Nat} (hb : 0 < b) : (a + 1) * b ≤ n ↔ a < n / b := by
  rw [Nat.lt_iff_add_one_le, Nat.le_div_iff_mul_le hb]
end
end Go.AI
end
section
/- A function's results, where they are known by what holds of them. No program is in sight. -/
namespace Go.AI
set_option linter.unusedVariables false
section
variable {P : Program}
theorem EV_postE {H : FuncId → Hint} {T : Table} {f : FuncId} {fn : Func} {c : Code} {as : List AV} {s : List (List AV)} {Φ : AV × List (List AV) → Prop} (hT : T f = none) (hf : P.funcs[AI.base f]? = some fn) (hb : fn.body = some c)
    (hn : as.length ≤ fn.ntmps) (hc : codeOk (H f) fn.ntmps c = true) (hg : (fn.name == "runtime.NumGoroutine") = false)
    (hp : Post (EXEC P (H f) (EV P H T) c ⟨params 0 as, [], s⟩) fun e st => ∃ r, finE P (H f) s fn (some (e, st)) = some r ∧ Φ r) (h9 : f < 900000 := by decide) : ∃ r, EV P H T f as s = some r ∧ Φ r := by
  obtain ⟨e, st, h1, r, h2, h3⟩ := hp
  exact ⟨r, EV_post hT hf hb hn hc hg ⟨e, st, h1, h2⟩ h9, h3⟩
end
end Go.AI
end
section
/- What is seen of arguments in a call that only looks. No program is in sight. -/
namespace Go.AI
set_option linter.unusedVariables false
theorem mapO_map {β : Type} {g : β → AV} {f : AV → Option AV} (h : ∀ x, f (g x) = some (g x)) : ∀ l : List β, mapO f (l.map g) = some (l.map g) := by
  intro l
  induction l with
  | nil => rfl
  | cons x r ih => simp only [List.map_cons, mapO, h, bnd, ih]
theorem mapO_get2 {f : AV → Option AV} {l l' : List AV} (hl : l.length = l'.length) (h : ∀ (i : Nat) (x : AV), l[i]? = some x → ∃ y, l'[i]? = some y ∧ f x = some y) : mapO f l = some l' := by
  induction l generalizing l' with
  | nil => cases l' with
    | nil => rfl
    | cons y r => simp at hl
  | cons x r ih => cases l' with
    | nil => simp at hl
    | cons y r' =>
      obtain ⟨z, hz, hf⟩ := h 0 x rfl
      simp at hz; subst hz
      simp only [mapO, hf, bnd]
      rw [ih (by simpa using hl) (fun i x hi => by simpa using h (i + 1) x (by simpa using hi))]
theorem flatV_u8 (s : List (List AV)) (d : Nat) (b : UInt8) : flatV s (d + 1) (.u8 b) = some (.u8 b) := rfl
theorem flatV_bytes (s : List (List AV)) (d : Nat) (l : List UInt8) : flatV s (d + 2) (.sl .sh (l.map .u8)) = some (.sl .sh (l.map .u8)) := by
  simp only [flatV, mapO_map (flatV_u8 s d), bnd]
theorem flatV_lists (s : List (List AV)) (d : Nat) (l : List (List UInt8)) : flatV s (d + 3) (.sl .sh (l.map fun x => .sl .sh (x.map .u8))) = some (.sl .sh (l.map fun x => .sl .sh (x.map .u8))) := by
  simp only [flatV, mapO_map (g := fun x : List UInt8 => AV.sl .sh (x.map .u8)) (f := flatV s (d + 2)) (fun x => flatV_bytes s d x), bnd]
theorem flatV_ms {s : List (List AV)} {ty b n : Nat} {l : List UInt8} (d : Nat) (h : s[b]? = some (l.map .u8)) (hn : l.length = n) : flatV s (d + 2) (.ms ty 1 b 0 n) = some (.sl .sh (l.map .u8)) := by
  subst hn
  have e : List.take l.length (List.drop 0 (l.map AV.u8)) = l.map .u8 := by rw [List.drop_zero]; exact List.take_of_length_le (by simp)
  have c : (1 = 1 ∧ 0 + l.length ≤ (l.map AV.u8).length) := ⟨rfl, by simp⟩
  rw [flatV, h, bnd, if_pos c, e, mapO_map (flatV_u8 s d)]; rfl
/-- boxes in a row -/
def msRow (ty a n k : Nat) : List AV := (List.range n).map fun i => .ms ty 1 (a + i) 0 k
theorem flatV_row {s : List (List AV)} {ty a k : Nat} {l : List (List UInt8)} (d : Nat) (h : ∀ (i : Nat) x, l[i]? = some x → s[a + i]? = some (x.map .u8)) (hk : ∀ x ∈ l, x.length = k) :
    flatV s (d + 3) (.sl .sh (msRow ty a l.length k)) = some (.sl .sh (l.map fun x => .sl .sh (x.map .u8))) := by
  simp only [flatV]
  rw [mapO_get2 (l' := l.map fun x => .sl .sh (x.map .u8)) (by simp [msRow])]
  · rfl
  · intro i x hx
    simp only [msRow, List.getElem?_map] at hx
    cases hi : (List.range l.length)[i]? with
    | none => rw [hi] at hx; cases hx
    | some j =>
      have hj : j = i ∧ i < l.length := by
        rw [List.getElem?_eq_some_iff] at hi
        obtain ⟨h1, h2⟩ := hi
        simp at h1 h2
        exact ⟨h2.symm, h1⟩
      obtain ⟨rfl, hlt⟩ := hj
      rw [hi] at hx
      simp at hx; subst hx
      obtain ⟨y, hy⟩ : ∃ y, l[j]? = some y := ⟨_, List.getElem?_eq_getElem hlt⟩
      exact ⟨.sl .sh (y.map .u8), by simp [hy], flatV_ms d (h j y hy) (hk y (List.mem_of_getElem? hy))⟩
end Go.AI
end
section
/- A statement's arguments, as the evaluation holds them. No program is in sight. -/
namespace Go.AI
open Go.RowKit Go.ChangeShapes
set_option linter.unusedVariables false

theorem plain_addr {w : World} {a : Addr} {v : Value} (h : w.cell? a = some v) : ∃ b off, a = ⟨b, off, none⟩ := by
  obtain ⟨b, off, s⟩ := a
  cases s with
  | none => exact ⟨b, off, rfl⟩
  | some s =>
    simp only [World.cell?] at h
    split at h <;> simp at h

section
variable {H : Type} {enc : TypeId × Value → H} {P : Program} {W : World} {t e : TypeId} {α : Type}

/-- what is read at a type is a value of α, held as R says; Q: what of the datum -/
structure Reads (enc : TypeId × Value → H) (P : Program) (W : World) (t : TypeId) {α : Type} (R : α → AV) (Q : α → DataW H → Prop) : Prop where
  cells : ∀ a, (R a).cells.length = P.cellsOf t ∧ (∀ c ∈ (R a).cells, plain c = true)
  pos : 0 < P.cellsOf t
  rd : ∀ fuel cs x, DataW.trod enc P W 0 (fun _ => true) true fuel t cs = some x → ∃ a, Q a x.1 ∧ cs.length = P.cellsOf t ∧ ∀ j c, (R a).cells[j]? = some c → Rep W.heap.size gh0 W (cs.getD j undef) c

theorem one_cell {v : Value} {c : AV} (h : Rep W.heap.size gh0 W v c) : ∀ j c', [c][j]? = some c' → Rep W.heap.size gh0 W ([v].getD j undef) c' := by
  intro j c' e
  cases j with
  | zero => simp at e; subst e; exact h
  | succ j => simp at e

theorem Reads.int {k : IntKind} (ht : P.underlying t = some (.int k)) (hc : P.cellsOf t = 1) : Reads enc P W t (fun n : Int => AV.int k n) (fun n d => d = .lit (.int k n) ∧ (Lit.int k n).wf = true) := by
  refine ⟨fun a => ⟨by rw [hc]; rfl, fun c h => by simp [AV.cells] at h; subst h; rfl⟩, by omega, fun fuel cs x h => ?_⟩
  obtain ⟨n, rfl, rfl, hw⟩ := DataW.trod_int ht h
  exact ⟨n, ⟨rfl, hw⟩, by simp [hc], one_cell (.int k n)⟩
theorem Reads.u8 (ht : P.underlying t = some (.int .u8)) (hc : P.cellsOf t = 1) : Reads enc P W t AV.u8 (fun n d => d = .lit (.int .u8 n.toNat)) := by
  refine ⟨fun a => ⟨by rw [hc]; rfl, fun c h => by simp [AV.cells, AV.u8] at h; subst h; rfl⟩, by omega, fun fuel cs x h => ?_⟩
  obtain ⟨n, rfl, rfl, hw⟩ := DataW.trod_int ht h
  have hb := bounds_u8 hw
  obtain ⟨m, rfl⟩ := Int.eq_ofNat_of_zero_le hb.1
  have hm : (UInt8.ofNat m).toNat = m := by simp only [UInt8.toNat_ofNat']; omega
  exact ⟨UInt8.ofNat m, by rw [hm], by simp [hc], one_cell (by rw [AV.u8, hm]; exact .int _ _)⟩
theorem Reads.bool (ht : P.underlying t = some .bool) (hc : P.cellsOf t = 1) : Reads enc P W t AV.bool (fun b d => d = .lit (.bool b)) := by
  refine ⟨fun a => ⟨by rw [hc]; rfl, fun c h => by simp [AV.cells] at h; subst h; rfl⟩, by omega, fun fuel cs x h => ?_⟩
  cases fuel with
  | zero => simp [DataW.trod] at h
  | succ n =>
    unfold DataW.trod at h
    rw [ht] at h
    split at h
    all_goals first
      | (rename_i b _; injection h with h; subst h; exact ⟨b, rfl, by simp [hc], one_cell (.bool _)⟩)
      | (simp at *; done)
theorem Reads.str (ht : P.underlying t = some .string) (hc : P.cellsOf t = 1) : Reads enc P W t AV.str (fun s d => d = .lit (.string s) ∧ s.length ≤ maxLen) := by
  refine ⟨fun a => ⟨by rw [hc]; rfl, fun c h => by simp [AV.cells] at h; subst h; rfl⟩, by omega, fun fuel cs x h => ?_⟩
  obtain ⟨s, rfl, rfl, hw⟩ := DataW.trod_string ht h
  exact ⟨s.data.toList, ⟨rfl, by simpa using hw⟩, by simp [hc], one_cell (.str s)⟩

theorem cells_get {w : World} {a : Addr} {n : Nat} {cs : List Value} (h : w.cells? 0 a n = some cs) : cs.length = n ∧ ∀ j, j < n → w.cell? (a.add j) = some (cs.getD j undef) := by
  unfold World.cells? at h
  rw [if_pos (Nat.zero_le _)] at h
  have hl := mapM_some_length h
  refine ⟨by simpa using hl, fun j hj => ?_⟩
  have h1 := mapM_some_get h j j (by simp [hj])
  have hlt : j < cs.length := by rw [hl]; simpa using hj
  rw [h1, List.getElem?_eq_getElem hlt]
  simp [List.getD, List.getElem?_eq_getElem hlt]

theorem flat_at {α : Type} {R : α → AV} (l : List α) (i j : Nat) (c : AV) (h : ((l.map R)[i]?.bind fun e => e.cells[j]?) = some c) : ∃ a, l[i]? = some a ∧ (R a).cells[j]? = some c := by
  rw [List.getElem?_map] at h
  cases hx : l[i]? with
  | none => rw [hx] at h; cases h
  | some a => rw [hx] at h; exact ⟨a, rfl, h⟩
theorem choose_list {α : Type} {Q : Nat → α → Prop} (n : Nat) (h : ∀ i, i < n → ∃ z, Q i z) : ∃ l : List α, l.length = n ∧ ∀ (i : Nat) (z : α), l[i]? = some z → Q i z := by
  induction n with
  | zero => exact ⟨[], rfl, fun i z e => by simp at e⟩
  | succ n ih =>
    obtain ⟨l, hl, hq⟩ := ih fun i hi => h i (by omega)
    obtain ⟨z, hz⟩ := h n (by omega)
    refine ⟨l ++ [z], by simp [hl], fun i y e => ?_⟩
    rw [List.getElem?_append] at e
    split at e
    · exact hq i y e
    · rename_i hi
      have : i = n := by
        rcases Nat.lt_or_ge (i - l.length) 1 with q | q
        · omega
        · rw [List.getElem?_eq_none (by simpa using q)] at e; cases e
      subst this
      simp [hl] at e; subst e; exact hz

/-- a slice's datum, by its elements' -/
def slQ {α : Type} (Q : α → DataW H → Prop) (l : List α) (d : DataW H) : Prop :=
  (l = [] ∧ d = .nil) ∨ ∃ ds rest, d = .slice ds rest ∧ l.length = ds.length ∧ l.length ≤ maxLen ∧ ∀ (i : Nat) (a : α) (x : DataW H), l[i]? = some a → ds[i]? = some x → Q a x

theorem Reads.slice {R : α → AV} {Q : α → DataW H → Prop} (h : Reads enc P W e R Q) (ht : P.underlying t = some (.slice e)) (hc : P.cellsOf t = 1) : Reads enc P W t (fun l : List α => AV.sl .sh (l.map R)) (slQ Q) := by
  refine ⟨fun a => ⟨by rw [hc]; rfl, fun c q => by simp [AV.cells] at q; subst q; rfl⟩, by omega, fun fuel cs x hx => ?_⟩
  rcases Go.Deep.open_slice ht hx with ⟨rfl, rfl⟩ | ⟨a, len, cap, m, n, D, Pl, rfl, hb, hl, hm, hm2, rfl, hel⟩
  · exact ⟨[], .inl ⟨rfl, rfl⟩, by simp [hc], one_cell (.slnil _)⟩
  · simp only [if_true] at hm2
    subst hm2
    obtain ⟨l, hl2, hq⟩ := choose_list (Q := fun i (z : α) => Q z (D i) ∧ ∀ j, j < P.cellsOf e → ∃ v, W.cell? ((a.add (i * P.cellsOf e)).add j) = some v ∧ ∀ c, (R z).cells[j]? = some c → Rep W.heap.size gh0 W v c) len (by
      intro i hi
      obtain ⟨cs', h1, h2⟩ := hel i (by omega)
      obtain ⟨z, h3, h4, h5⟩ := h.rd _ _ _ h2
      obtain ⟨h6, h7⟩ := cells_get h1
      exact ⟨z, h3, fun j hj => ⟨_, h7 j hj, fun c hc => h5 j c hc⟩⟩)
    subst hl2
    refine ⟨l, .inr ⟨_, _, rfl, by simp, by omega, fun i z x h1 h2 => ?_⟩, by simp [hc], one_cell ?_⟩
    · have hi : i < l.length := (List.getElem?_eq_some_iff.1 h1).1
      rw [List.getElem?_map, List.getElem?_range hi] at h2
      simp at h2; subst h2
      exact (hq i z h1).1
    · by_cases h0 : l = []
      · subst h0; exact   .sl0 a m .sh (by simp) hm
      · have hpos := h.pos
        have hlen : 0 < l.length := List.length_pos_iff.2 h0
        obtain ⟨z0, hz0⟩ : ∃ z, l[0]? = some z := ⟨_, List.getElem?_eq_getElem hlen⟩
        obtain ⟨v0, hv0, _⟩ := (hq 0 z0 hz0).2 0 hpos
        have hadd : ∀ (a : Addr) (i : Nat) b off, a = ⟨b, off, none⟩ → a.add i = ⟨b, off + i, none⟩ := fun a i b off q => by subst q; unfold Addr.add; split <;> simp_all
        obtain ⟨b, off, rfl⟩ : ∃ b off, a = ⟨b, off, none⟩ := by
          obtain ⟨b, off, s⟩ := a
          cases s with
          | none => exact ⟨b, off, rfl⟩
          | some s =>
            obtain ⟨b', off', q⟩ := plain_addr hv0
            simp [Addr.add] at q
        have hrl : (l.map R).length = l.length := by simp
        rw [← hrl]
        rw [hadd _ _ b off rfl, hadd _ _ b _ rfl] at hv0
        have hblk : b < W.heap.size := World.block_lt_of_cell? W _ hv0
        have hall : ∀ k, k < l.length * P.cellsOf e → ∃ z v, l[k / P.cellsOf e]? = some z ∧ W.cell? ⟨b, off + k, none⟩ = some v ∧ ∀ c, (R z).cells[k % P.cellsOf e]? = some c → Rep W.heap.size gh0 W v c := by
          intro k hk
          have hki : k / P.cellsOf e < l.length := (Nat.div_lt_iff_lt_mul hpos).2 hk
          obtain ⟨z, hz⟩ : ∃ z, l[k / P.cellsOf e]? = some z := ⟨_, List.getElem?_eq_getElem hki⟩
          obtain ⟨v, hv, hr⟩ := (hq _ z hz).2 (k % P.cellsOf e) (Nat.mod_lt _ hpos)
          have : (Addr.add (Addr.add ⟨b, off, none⟩ (k / P.cellsOf e * P.cellsOf e)) (k % P.cellsOf e)) = ⟨b, off + k, none⟩ := by
            rw [hadd _ _ b off rfl, hadd _ _ b _ rfl]
            have := Nat.div_add_mod k (P.cellsOf e)
            rw [Nat.mul_comm] at this
            rw [Nat.add_assoc, this]
          rw [this] at hv
          exact ⟨z, v, hz, hv, hr⟩
        refine .sl b off m (P.cellsOf e) .sh (l.map R) (fun k => (W.cell? ⟨b, off + k, none⟩).getD undef) (by simp) hpos (by simpa using hl) hm ?_ ?_ ?_
        · intro x hx
          obtain ⟨z, _, rfl⟩ := List.mem_map.1 hx
          exact h.cells z
        · intro k hk
          obtain ⟨z, v, h1, h2, h3⟩ := hall k (by simpa using hk)
          exact ⟨by rw [h2]; rfl, .inl hblk⟩
        · intro i j c hc'
          obtain ⟨z, hz, hzc⟩ := flat_at l i j c hc'
          have hi : i < l.length := (List.getElem?_eq_some_iff.1 hz).1
          have hj : j < P.cellsOf e := by rw [← (h.cells z).1]; exact (List.getElem?_eq_some_iff.1 hzc).1
          obtain ⟨z', v, h1, h2, h3⟩ := hall (i * P.cellsOf e + j) (by
            have : (i + 1) * P.cellsOf e ≤ l.length * P.cellsOf e := Nat.mul_le_mul_right _ hi
            rw [Nat.add_mul] at this; omega)
          have e1 : (i * P.cellsOf e + j) / P.cellsOf e = i := by rw [Nat.mul_comm, Nat.mul_add_div hpos, Nat.div_eq_of_lt hj]; rfl
          have e2 : (i * P.cellsOf e + j) % P.cellsOf e = j := by rw [Nat.mul_comm, Nat.mul_add_mod, Nat.mod_eq_of_lt hj]
          rw [e1, hz] at h1; injection h1 with h1; subst h1
          rw [e2] at h3
          simp only [h2, Option.getD_some]
          exact h3 c hzc

def oneT (d : Option TypeDesc) : Bool := match d with
  | some (.int _) => true
  | some .string => true
  | some .bool => true
  | some (.slice _) => true
  | _ => false
theorem val_one {r : Reach} {b0 : Nat} {v : Value} (hk : oneT (P.underlying t) = true) (h : Value.okWide P W r b0 t v) : v.cells = #[v] := by
  unfold Value.okWide at h
  cases hd : P.underlying t with
  | none => rw [hd] at hk; cases hk
  | some d =>
    rw [hd] at hk h
    cases d <;> simp only [oneT, Bool.false_eq_true] at hk
    all_goals
      simp only at h
      unfold Cell.okWide at h
      rw [hd] at h
      try unfold Cell.ok at h
      try rw [hd] at h
      cases v <;> first | rfl | (simp at h)

theorem Reads.arg1 {R : α → AV} {Q : α → DataW H → Prop} (h : Reads enc P W t R Q) (hR : ∀ a, (R a).cells = [R a]) (hk : oneT (P.underlying t) = true) {r : Reach} {b0 : Nat} {v : Value} {d : DataW H} {p : List MemPlace}
    (hv : Value.okWide P W r b0 t v) (ht : DataW.Trod enc P W 0 (fun _ => true) true t v d p) : ∃ a, Q a d ∧ Rep W.heap.size gh0 W v (R a) ∧ pers (R a) = true ∧ quiet (R a) = true := by
  obtain ⟨fuel, hf⟩ := ht
  rw [val_one hk hv] at hf
  obtain ⟨a, h1, h2, h3⟩ := h.rd _ _ _ hf
  have h4 := (h.cells a).2 (R a) (by rw [hR]; simp)
  simp only [plain, Bool.and_eq_true] at h4
  refine ⟨a, h1, by have := h3 0 (R a) (by rw [hR]; rfl); simpa using this, ?_, h4.2⟩
  have h5 := h4.1
  cases hq : R a <;> rw [hq] at h5 <;> first | rfl | simp [cell1] at h5
theorem Reads.argS {R : α → AV} {Q : α → DataW H → Prop} (h : Reads enc P W t R Q) (hR : ∀ a, ∃ cs, R a = .agg cs) {fs : Array Field} (hk : P.underlying t = some (.struct fs)) {r : Reach} {b0 : Nat} {v : Value} {d : DataW H} {p : List MemPlace}
    (hv : Value.okWide P W r b0 t v) (ht : DataW.Trod enc P W 0 (fun _ => true) true t v d p) : ∃ a, Q a d ∧ Rep W.heap.size gh0 W v (R a) ∧ pers (R a) = true ∧ quiet (R a) = true := by
  obtain ⟨fuel, hf⟩ := ht
  unfold Value.okWide at hv
  rw [hk] at hv
  obtain ⟨vs, rfl, _, _⟩ := hv
  obtain ⟨a, h1, h2, h3⟩ := h.rd _ _ _ hf
  obtain ⟨cs, hcs⟩ := hR a
  have h4 := h.cells a
  rw [hcs] at h4 h3
  simp only [Value.cells, AV.cells] at h2 h3 h4
  refine ⟨a, h1, ?_⟩
  rw [hcs]
  refine ⟨.agg vs cs (by rw [h4.1, ← h2]; simp) h4.2 fun j c hc => ?_, rfl, rfl⟩
  have := h3 j c hc
  simpa [Array.getD_eq_getD_getElem?, List.getD] using this
/-- behind the call the arguments read as they did -/
theorem trodAll_keep (hl : laidOutB P = true) {W' : World} (hb : Below W.heap.size W W') : ∀ {ts : List TypeId} {vs : List Value} {ds : List (DataW H)} {ps : List MemPlace}, (∀ t ∈ ts, P.readableRec t = true ∧ t < P.types.size) →
    DataW.TrodAll enc P W 0 (fun _ => true) true ts vs ds ps → (∀ x ∈ ps, x.block < W.heap.size) → DataW.TrodAll enc P W' 0 (fun b => decide (b < W.heap.size)) true ts vs ds ps
  | [], [], [], ps, _, h, _ => h
  | t :: ts, [], [], ps, _, h, _ => by simp [DataW.TrodAll] at h
  | [], v :: vs, [], ps, _, h, _ => by simp [DataW.TrodAll] at h
  | [], [], d :: ds, ps, _, h, _ => by simp [DataW.TrodAll] at h
  | t :: ts, v :: vs, [], ps, _, h, _ => by simp [DataW.TrodAll] at h
  | t :: ts, [], d :: ds, ps, _, h, _ => by simp [DataW.TrodAll] at h
  | [], v :: vs, d :: ds, ps, _, h, _ => by simp [DataW.TrodAll] at h
  | t :: ts, v :: vs, d :: ds, ps, ht, h, hp => by
    obtain ⟨p, q, h1, h2, rfl⟩ := h
    refine ⟨p, q, Below.trod hl (ht t (by simp)).1 (ht t (by simp)).2 h1 hb fun x hx => hp x (List.mem_append_left _ hx), ?_, rfl⟩
    exact trodAll_keep hl hb (fun t h => ht t (List.mem_cons_of_mem _ h)) h2 fun x hx => hp x (List.mem_append_right _ hx)
theorem laidVars_mem {w : World} : ∀ {laid : List (String × DataW Unit)} {ps : List MemPlace} {n : String} {d : DataW Unit}, DataW.LaidVars P w laid ps → (n, d) ∈ laid →
    ∃ g t cs fuel p, P.globalNamed n = some g ∧ (P.globals[g]?).map (·.type) = some t ∧ w.var? P n = some cs ∧ DataW.trod (fun _ => ()) P w 0 (fun _ => true) false fuel t cs.toList = some (d, p)
  | [], _, _, _, _, hm => by cases hm
  | x :: r, ps, n, d, h, hm => by
    obtain ⟨g, t, cs, fuel, p, q, h1, h2, h3, h4, h5, _⟩ := h
    rcases List.mem_cons.1 hm with e | hm
    · subst e; exact ⟨g, t, cs, fuel, p, h1, h2, h3, h4⟩
    · exact laidVars_mem h5 hm
theorem tabIs_of_mem {name : String} {k : IntKind} {zs : List Int} {laid : List (String × DataW Unit)} {g : Nat} {n : Nat} (hm : (name, Lib.tabData k zs) ∈ laid)
    (hg : P.globalNamed name = some g) (hty : (P.globals[g]?).map (·.type) = some t) (ht : P.underlying t = some (.array n e)) (he : P.underlying e = some (.int k)) (hce : P.cellsOf e = 1) (hct : P.cellsOf t = n)
    (h : laidMet P laid W) : Lib.TabIs P W name k zs := by
  obtain ⟨ps, hl, _⟩ := h
  obtain ⟨g', t', cs, fuel, p, hg', ht', hvar, hd⟩ := laidVars_mem hl hm
  obtain rfl := Option.some.inj (hg.symm.trans hg')
  obtain rfl := Option.some.inj (hty.symm.trans ht')
  unfold Lib.TabIs
  rw [hvar, ← Lib.cells_of_tab ht he hce hct hd]
end
end Go.AI
end
section
/- A statement's arguments, as the evaluation holds them: structs. No program is in sight. -/
namespace Go.AI
open Go.RowKit Go.ChangeShapes Go.Deep Go.Joins
set_option linter.unusedVariables false
section
variable {H : Type} {enc : TypeId × Value → H} {P : Program} {W : World} {t e : TypeId}

theorem cells_sub {W : World} {cs : List Value} {off n : Nat} {l : List AV} (h : ∀ (j : Nat) (c : AV), l[j]? = some c → Rep W.heap.size gh0 W (((cs.drop off).take n).getD j undef) c) (hl : l.length ≤ n) :
    ∀ (j : Nat) (c : AV), l[j]? = some c → Rep W.heap.size gh0 W (cs.getD (off + j) undef) c := by
  intro j c hc
  have := h j c hc
  have hj : j < n := Nat.lt_of_lt_of_le (List.getElem?_eq_some_iff.1 hc).1 hl
  simpa [List.getD, List.getElem?_take, hj, List.getElem?_drop] using this
def st2R {α β : Type} (R0 : α → AV) (R1 : β → AV) (x : α × β) : AV := .agg ((R0 x.1).cells ++ (R1 x.2).cells)
def st2Q {α β : Type} (Q0 : α → DataW H → Prop) (Q1 : β → DataW H → Prop) (x : α × β) (d : DataW H) : Prop := ∃ d0 d1, d = .agg [d0, d1] ∧ Q0 x.1 d0 ∧ Q1 x.2 d1
theorem Reads.struct2 {α β : Type} {R0 : α → AV} {Q0 : α → DataW H → Prop} {R1 : β → AV} {Q1 : β → DataW H → Prop} {f0 f1 : Field} (h0 : Reads enc P W f0.type R0 Q0) (h1 : Reads enc P W f1.type R1 Q1)
    (ht : P.underlying t = some (.struct #[f0, f1])) (o0 : f0.offset = 0) (o1 : f1.offset = P.cellsOf f0.type) (hc : P.cellsOf t = P.cellsOf f0.type + P.cellsOf f1.type) :
    Reads enc P W t (st2R R0 R1) (st2Q Q0 Q1) := by
  refine ⟨fun x => ⟨?_, ?_⟩, by have := h0.pos; omega, fun fuel cs x hx => ?_⟩
  · show ((R0 x.1).cells ++ (R1 x.2).cells).length = P.cellsOf t
    simp only [List.length_append]
    rw [(h0.cells x.1).1, (h1.cells x.2).1, hc]
  · intro c hq
    replace hq : c ∈ (R0 x.1).cells ++ (R1 x.2).cells := hq
    simp only [List.mem_append] at hq
    rcases hq with hq | hq
    · exact (h0.cells x.1).2 c hq
    · exact (h1.cells x.2).2 c hq
  · obtain ⟨y0, y1, n, rfl, hl, t0, t1⟩ := trod_struct2 ht hx
    obtain ⟨a0, q0, l0, r0⟩ := h0.rd _ _ _ t0
    obtain ⟨a1, q1, l1, r1⟩ := h1.rd _ _ _ t1
    have s0 := cells_sub r0 (Nat.le_of_eq (h0.cells a0).1)
    have s1 := cells_sub r1 (Nat.le_of_eq (h1.cells a1).1)
    refine ⟨(a0, a1), ⟨_, _, rfl, q0, q1⟩, hl, fun j c hj => ?_⟩
    replace hj : ((R0 a0).cells ++ ((R1 a1).cells))[j]? = some c := by simpa [st2R, AV.cells] using hj
    rw [List.getElem?_append] at hj
    split at hj
    · have := s0 _ c hj
      rw [o0] at this
      have e : 0 + (j) = j := by have := (h0.cells a0).1; have := (h1.cells a1).1; omega
      rwa [e] at this
    · rename_i hn0
      have := s1 _ c hj
      rw [o1] at this
      have e : (P.cellsOf f0.type) + (j - (R0 a0).cells.length) = j := by have := (h0.cells a0).1; have := (h1.cells a1).1; omega
      rwa [e] at this
def st3R {α β γ : Type} (R0 : α → AV) (R1 : β → AV) (R2 : γ → AV) (x : α × β × γ) : AV := .agg ((R0 x.1).cells ++ (R1 x.2.1).cells ++ (R2 x.2.2).cells)
def st3Q {α β γ : Type} (Q0 : α → DataW H → Prop) (Q1 : β → DataW H → Prop) (Q2 : γ → DataW H → Prop) (x : α × β × γ) (d : DataW H) : Prop := ∃ d0 d1 d2, d = .agg [d0, d1, d2] ∧ Q0 x.1 d0 ∧ Q1 x.2.1 d1 ∧ Q2 x.2.2 d2
theorem Reads.struct3 {α β γ : Type} {R0 : α → AV} {Q0 : α → DataW H → Prop} {R1 : β → AV} {Q1 : β → DataW H → Prop} {R2 : γ → AV} {Q2 : γ → DataW H → Prop} {f0 f1 f2 : Field} (h0 : Reads enc P W f0.type R0 Q0) (h1 : Reads enc P W f1.type R1 Q1) (h2 : Reads enc P W f2.type R2 Q2)
    (ht : P.underlying t = some (.struct #[f0, f1, f2])) (o0 : f0.offset = 0) (o1 : f1.offset = P.cellsOf f0.type) (o2 : f2.offset = P.cellsOf f0.type + P.cellsOf f1.type) (hc : P.cellsOf t = P.cellsOf f0.type + P.cellsOf f1.type + P.cellsOf f2.type) :
    Reads enc P W t (st3R R0 R1 R2) (st3Q Q0 Q1 Q2) := by
  refine ⟨fun x => ⟨?_, ?_⟩, by have := h0.pos; omega, fun fuel cs x hx => ?_⟩
  · show ((R0 x.1).cells ++ (R1 x.2.1).cells ++ (R2 x.2.2).cells).length = P.cellsOf t
    simp only [List.length_append]
    rw [(h0.cells x.1).1, (h1.cells x.2.1).1, (h2.cells x.2.2).1, hc]
  · intro c hq
    replace hq : c ∈ (R0 x.1).cells ++ (R1 x.2.1).cells ++ (R2 x.2.2).cells := hq
    simp only [List.mem_append] at hq
    rcases hq with (hq | hq) | hq
    · exact (h0.cells x.1).2 c hq
    · exact (h1.cells x.2.1).2 c hq
    · exact (h2.cells x.2.2).2 c hq
  · obtain ⟨y0, y1, y2, n, rfl, hl, t0, t1, t2⟩ := trod_struct3 ht hx
    obtain ⟨a0, q0, l0, r0⟩ := h0.rd _ _ _ t0
    obtain ⟨a1, q1, l1, r1⟩ := h1.rd _ _ _ t1
    obtain ⟨a2, q2, l2, r2⟩ := h2.rd _ _ _ t2
    have s0 := cells_sub r0 (Nat.le_of_eq (h0.cells a0).1)
    have s1 := cells_sub r1 (Nat.le_of_eq (h1.cells a1).1)
    have s2 := cells_sub r2 (Nat.le_of_eq (h2.cells a2).1)
    refine ⟨(a0, a1, a2), ⟨_, _, _, rfl, q0, q1, q2⟩, hl, fun j c hj => ?_⟩
    replace hj : ((R0 a0).cells ++ ((R1 a1).cells ++ ((R2 a2).cells)))[j]? = some c := by simpa [st3R, AV.cells] using hj
    rw [List.getElem?_append] at hj
    split at hj
    · have := s0 _ c hj
      rw [o0] at this
      have e : 0 + (j) = j := by have := (h0.cells a0).1; have := (h1.cells a1).1; have := (h2.cells a2).1; omega
      rwa [e] at this
    · rename_i hn0
      rw [List.getElem?_append] at hj
      split at hj
      · have := s1 _ c hj
        rw [o1] at this
        have e : (P.cellsOf f0.type) + (j - (R0 a0).cells.length) = j := by have := (h0.cells a0).1; have := (h1.cells a1).1; have := (h2.cells a2).1; omega
        rwa [e] at this
      · rename_i hn1
        have := s2 _ c hj
        rw [o2] at this
        have e : (P.cellsOf f0.type + P.cellsOf f1.type) + (j - (R0 a0).cells.length - (R1 a1).cells.length) = j := by have := (h0.cells a0).1; have := (h1.cells a1).1; have := (h2.cells a2).1; omega
        rwa [e] at this
def st4R {α β γ δ : Type} (R0 : α → AV) (R1 : β → AV) (R2 : γ → AV) (R3 : δ → AV) (x : α × β × γ × δ) : AV := .agg ((R0 x.1).cells ++ (R1 x.2.1).cells ++ (R2 x.2.2.1).cells ++ (R3 x.2.2.2).cells)
def st4Q {α β γ δ : Type} (Q0 : α → DataW H → Prop) (Q1 : β → DataW H → Prop) (Q2 : γ → DataW H → Prop) (Q3 : δ → DataW H → Prop) (x : α × β × γ × δ) (d : DataW H) : Prop := ∃ d0 d1 d2 d3, d = .agg [d0, d1, d2, d3] ∧ Q0 x.1 d0 ∧ Q1 x.2.1 d1 ∧ Q2 x.2.2.1 d2 ∧ Q3 x.2.2.2 d3
theorem Reads.struct4 {α β γ δ : Type} {R0 : α → AV} {Q0 : α → DataW H → Prop} {R1 : β → AV} {Q1 : β → DataW H → Prop} {R2 : γ → AV} {Q2 : γ → DataW H → Prop} {R3 : δ → AV} {Q3 : δ → DataW H → Prop} {f0 f1 f2 f3 : Field} (h0 : Reads enc P W f0.type R0 Q0) (h1 : Reads enc P W f1.type R1 Q1) (h2 : Reads enc P W f2.type R2 Q2) (h3 : Reads enc P W f3.type R3 Q3)
    (ht : P.underlying t = some (.struct #[f0, f1, f2, f3])) (o0 : f0.offset = 0) (o1 : f1.offset = P.cellsOf f0.type) (o2 : f2.offset = P.cellsOf f0.type + P.cellsOf f1.type) (o3 : f3.offset = P.cellsOf f0.type + P.cellsOf f1.type + P.cellsOf f2.type) (hc : P.cellsOf t = P.cellsOf f0.type + P.cellsOf f1.type + P.cellsOf f2.type + P.cellsOf f3.type) :
    Reads enc P W t (st4R R0 R1 R2 R3) (st4Q Q0 Q1 Q2 Q3) := by
  refine ⟨fun x => ⟨?_, ?_⟩, by have := h0.pos; omega, fun fuel cs x hx => ?_⟩
  · show ((R0 x.1).cells ++ (R1 x.2.1).cells ++ (R2 x.2.2.1).cells ++ (R3 x.2.2.2).cells).length = P.cellsOf t
    simp only [List.length_append]
    rw [(h0.cells x.1).1, (h1.cells x.2.1).1, (h2.cells x.2.2.1).1, (h3.cells x.2.2.2).1, hc]
  · intro c hq
    replace hq : c ∈ (R0 x.1).cells ++ (R1 x.2.1).cells ++ (R2 x.2.2.1).cells ++ (R3 x.2.2.2).cells := hq
    simp only [List.mem_append] at hq
    rcases hq with ((hq | hq) | hq) | hq
    · exact (h0.cells x.1).2 c hq
    · exact (h1.cells x.2.1).2 c hq
    · exact (h2.cells x.2.2.1).2 c hq
    · exact (h3.cells x.2.2.2).2 c hq
  · obtain ⟨y0, y1, y2, y3, n, rfl, hl, t0, t1, t2, t3⟩ := trod_struct4 ht hx
    obtain ⟨a0, q0, l0, r0⟩ := h0.rd _ _ _ t0
    obtain ⟨a1, q1, l1, r1⟩ := h1.rd _ _ _ t1
    obtain ⟨a2, q2, l2, r2⟩ := h2.rd _ _ _ t2
    obtain ⟨a3, q3, l3, r3⟩ := h3.rd _ _ _ t3
    have s0 := cells_sub r0 (Nat.le_of_eq (h0.cells a0).1)
    have s1 := cells_sub r1 (Nat.le_of_eq (h1.cells a1).1)
    have s2 := cells_sub r2 (Nat.le_of_eq (h2.cells a2).1)
    have s3 := cells_sub r3 (Nat.le_of_eq (h3.cells a3).1)
    refine ⟨(a0, a1, a2, a3), ⟨_, _, _, _, rfl, q0, q1, q2, q3⟩, hl, fun j c hj => ?_⟩
    replace hj : ((R0 a0).cells ++ ((R1 a1).cells ++ ((R2 a2).cells ++ ((R3 a3).cells))))[j]? = some c := by simpa [st4R, AV.cells] using hj
    rw [List.getElem?_append] at hj
    split at hj
    · have := s0 _ c hj
      rw [o0] at this
      have e : 0 + (j) = j := by have := (h0.cells a0).1; have := (h1.cells a1).1; have := (h2.cells a2).1; have := (h3.cells a3).1; omega
      rwa [e] at this
    · rename_i hn0
      rw [List.getElem?_append] at hj
      split at hj
      · have := s1 _ c hj
        rw [o1] at this
        have e : (P.cellsOf f0.type) + (j - (R0 a0).cells.length) = j := by have := (h0.cells a0).1; have := (h1.cells a1).1; have := (h2.cells a2).1; have := (h3.cells a3).1; omega
        rwa [e] at this
      · rename_i hn1
        rw [List.getElem?_append] at hj
        split at hj
        · have := s2 _ c hj
          rw [o2] at this
          have e : (P.cellsOf f0.type + P.cellsOf f1.type) + (j - (R0 a0).cells.length - (R1 a1).cells.length) = j := by have := (h0.cells a0).1; have := (h1.cells a1).1; have := (h2.cells a2).1; have := (h3.cells a3).1; omega
          rwa [e] at this
        · rename_i hn2
          have := s3 _ c hj
          rw [o3] at this
          have e : (P.cellsOf f0.type + P.cellsOf f1.type + P.cellsOf f2.type) + (j - (R0 a0).cells.length - (R1 a1).cells.length - (R2 a2).cells.length) = j := by have := (h0.cells a0).1; have := (h1.cells a1).1; have := (h2.cells a2).1; have := (h3.cells a3).1; omega
          rwa [e] at this
end
end Go.AI
end
