/- Part 7 of a proof: a Go function is evaluated on abstract values (texts LGood .. FOpens); no conditions beyond those of each theorem. -/
import Derived.Test.YtkafjfkkangooaaGreatDoorAi6
import Derived.Test.YtkafjfkkangooaaGreatDoorRows
import Derived.Test.YtkafjfkkangooaaGreatDoorCards
import Derived.Test.YtkafjfkkangooaaGreatDoorTie
import Derived.WalkKit
import Derived.ProofKit
import Derived.OpenShut
import Derived.Below
import Derived.ChangeOld
import Derived.Deep.DeepHandedRow
import Derived.Lib.LaidTab
import Derived.Lay
import Derived.MakeChecks
set_option linter.all false
set_option linter.unusedVariables false
set_option linter.unusedSimpArgs false
set_option linter.unnecessarySimpa false
section
/- NoteGood: the evaluation. -/
namespace Go.Proofs.Tryz.Ai
open Go Go.AI Go.Proofs Go.B64
set_option maxHeartbeats 4000000
set_option maxRecDepth 4000
set_option linter.unusedVariables false

theorem loopN_err (text : List UInt8) (K : List (List UInt8 × List UInt8)) : ∀ (r pre : List (List UInt8 × List UInt8)) (g u : List (List UInt8)) (e : Int), loopN text K pre g u r = .inl e → e ≠ 0 := by
  intro r
  induction r with
  | nil => intro pre g u e h; rw [loopN_nil] at h; cases h
  | cons m r ih =>
    intro pre g u e h
    rw [loopN_cons] at h
    split at h
    · injection h with h; subst h; decide
    · split at h
      · exact ih _ _ _ _ h
      · split at h
        · exact ih _ _ _ _ h
        · injection h with h; subst h; decide
theorem loopN_names (text : List UInt8) (K : List (List UInt8 × List UInt8)) : ∀ (r pre : List (List UInt8 × List UInt8)) (g u : List (List UInt8)) (q : List (List UInt8) × List (List UInt8)), loopN text K pre g u r = .inr q → (∀ n ∈ g, ∃ k ∈ K, k.1 = n) → ∀ n ∈ q.1, ∃ k ∈ K, k.1 = n := by
  intro r
  induction r with
  | nil => intro pre g u q h; rw [loopN_nil] at h; injection h with h; subst h; exact fun h => h
  | cons m r ih =>
    intro pre g u q h hg
    rw [loopN_cons] at h
    split at h
    · cases h
    · split at h
      · exact ih _ _ _ _ h hg
      · rename_i k hk
        split at h
        · refine ih _ _ _ _ h fun n hn => ?_
          rcases List.mem_append.1 hn with hn | hn
          · exact hg n hn
          · simp only [List.mem_singleton] at hn
            subst hn
            have h2 := List.find?_some hk
            simp only [isKey, Bool.and_eq_true, beq_iff_eq] at h2
            exact ⟨k, List.mem_of_find?_eq_some hk, h2.1⟩
        · cases h
theorem loopN_len (text : List UInt8) (K : List (List UInt8 × List UInt8)) : ∀ (r pre : List (List UInt8 × List UInt8)) (g u : List (List UInt8)) (q : List (List UInt8) × List (List UInt8)), loopN text K pre g u r = .inr q → q.1.length + q.2.length = g.length + u.length + r.length := by
  intro r
  induction r with
  | nil => intro pre g u q h; rw [loopN_nil] at h; injection h with h; subst h; simp
  | cons m r ih =>
    intro pre g u q h
    rw [loopN_cons] at h
    split at h
    · cases h
    · split at h
      · rw [ih _ _ _ _ h]; simp; omega
      · split at h
        · rw [ih _ _ _ _ h]; simp; omega
        · cases h
/-- opened, or nothing of it -/
theorem openN_cases (s : List UInt8) (K : List (List UInt8 × List UInt8)) :
    (∃ e, e ≠ 0 ∧ openN s K = (([], [], []), e)) ∨ ∃ t g u, openN s K = ((t, g, u), 0) ∧ g ≠ [] ∧ (t ++ [10]) <+: s ∧ (∀ n ∈ g, ∃ k ∈ K, k.1 = n) ∧ g.length + u.length ≤ 8 := by
  unfold openN
  split
  · exact .inl ⟨13, by decide, rfl⟩
  · cases hc : cutP s with
    | none => exact .inl ⟨15, by decide, rfl⟩
    | some r =>
      obtain ⟨t, ms⟩ := r
      simp only
      split
      · exact .inl ⟨14, by decide, rfl⟩
      · rename_i h8
        cases hl : loopN t K [] [] [] ms with
        | inl e => exact .inl ⟨e, loopN_err _ _ _ _ _ _ _ hl, rfl⟩
        | inr q =>
          simp only
          split
          · exact .inl ⟨20, by decide, rfl⟩
          · rename_i hq
            refine .inr ⟨t, q.1, q.2, rfl, hq, ?_, loopN_names _ _ _ _ _ _ _ hl (by simp), ?_⟩
            · obtain ⟨ls, _, _, h3, _, _⟩ := cutN_is markP textP hc
              exact ⟨unl ls, by rw [h3]; simp⟩
            · have := loopN_len _ _ _ _ _ _ _ hl
              simp at this; omega
def hasN (K : List (List UInt8 × List UInt8)) (n : List UInt8) : Bool := K.any fun k => k.1 == n
theorem hasN_app (K : List (List UInt8 × List UInt8)) (n : List UInt8) (k : List UInt8 × List UInt8) : hasN (K ++ [k]) n = (hasN K n || k.1 == n) := by simp [hasN]
theorem goodLaw0 (s : List UInt8) (l : List (List UInt8 × List UInt8)) (hs : s.length ≤ 2 ^ 29) (hl : l.length ≤ 2 ^ 29) (h : ∀ k ∈ l, k.1.length ≤ 2 ^ 20 ∧ k.2.length ≤ 2 ^ 20) (σ : List (List AV)) : ev 6 [.str s, .sl .sh (l.map rkeyF)] σ = some (.bool true, σ) := by
  have hF := first_eq
  obtain ⟨b, hfew, hb⟩ := few_eq l (by omega) (fun x hx => by have := h x hx; omega) σ
  have hKe := Keys_eq l (by omega) h σ
  obtain ⟨K, hK⟩ : ∃ K, (keysG l).map hK = K := ⟨_, rfl⟩
  have hKl : K.length ≤ 2 ^ 29 := by
    rw [← hK, List.length_map]
    exact Nat.le_trans (List.length_filter_le ..) hl
  have hk : ∀ k ∈ K, k.1.length ≤ 2 ^ 20 ∧ k.2.length ≤ 2 ^ 20 := by
    intro k hk
    rw [← hK] at hk
    obtain ⟨x, hx, rfl⟩ := List.mem_map.1 hk
    exact ⟨(h x (List.mem_filter.1 hx).1).1, by simp [Ai.hK, sha256_len]⟩
  have hKm : ((keysG l).map fun k => keyF (Ai.hK k)) = K.map keyF := by rw [← hK, List.map_map]; rfl
  rw [hKm] at hKe
  have hOp := Open_eq s K hs (by omega) hk σ
  have hN : ∀ n σ, ev 13 [.int .i64 n] σ = some (.int .i64 n, σ) := fun n σ => Num_eq n σ
  obtain ⟨R, hR⟩ : ∃ R, (keysG l).map rkeyF = R := ⟨_, rfl⟩
  rw [hR] at hKe
  refine EV_post rfl Tryz.func6 rfl (by simp [Tryz.ntmps6]) (by kernel_rfl) (by kernel_rfl) ?_
  cases b with
  | false =>
    simp (maxSteps := 4000000) [List.getElem?_cons_zero, List.getElem?_cons_succ, hF, hfew, Tryz.results6]
  | true =>
    by_cases h8 : 8000 < s.length
    · simp (maxSteps := 4000000) [List.getElem?_cons_zero, List.getElem?_cons_succ, hF, hfew, h8, Tryz.results6]
    · rcases openN_cases s K with ⟨e, he, hq⟩ | ⟨t, g, u, hq, hg, hp, hn, hgu⟩
      · rw [hq] at hOp
        simp only [openedAV] at hOp
        have w0 : IntKind.i64.wrap 0 = 0 := wrap64 (by omega)
        simp (maxSteps := 4000000) [List.getElem?_cons_zero, List.getElem?_cons_succ, hF, hfew, h8, hKe, hOp, hN, he, w0, Tryz.results6]
      · rw [hq] at hOp
        simp only [openedAV] at hOp
        have hgl : g.length ≠ 0 := by simpa using hg
        have htl : t.length ≤ s.length := by have := hp.length_le; simp at this; omega
        have hB := Begins_eq s (t ++ [10]) (by omega) (by simp; omega)
        have hpb : (t ++ [10]).isPrefixOf s = true := by rw [List.isPrefixOf_iff_prefix]; exact hp
        rw [hpb] at hB
        have m1 : t.length + 1 ≤ most := by unfold most; omega
        simp (maxSteps := 4000000) [List.getElem?_cons_zero, List.getElem?_cons_succ, hF, hfew, h8, hKe, hOp, hN, hgl, hB, m1]
        refine Post_loop (I := fun i : Nat => ⟨[(7, .sl .sh (K.map keyF)), (10, .lp 10 0), (12, .int .i64 i)], [(10, [.str t, .sl .sh (g.map .str), .sl .sh (u.map .str)])], σ⟩) (Pr := fun i => i ≤ g.length) (μ := fun i => g.length - i) (a := 0) (by simp) (by simp) ?_
        intro i hi
        have w1 : IntKind.i64.wrap ((i : Int) + 1) = (i : Int) + 1 := wrap64 (by omega)
        by_cases hc : i < g.length
        · obtain ⟨n, hx⟩ : ∃ n, g[i]? = some n := ⟨_, List.getElem?_eq_getElem hc⟩
          obtain ⟨k0, hk0, hk0n⟩ := hn n (List.mem_of_getElem? hx)
          simp (maxSteps := 4000000) [List.getElem?_cons_zero, List.getElem?_cons_succ, -getElem?_pos, hc]
          refine Post_loop (I := fun j : Nat => ⟨[(7, .sl .sh (K.map keyF)), (10, .lp 10 0), (12, .int .i64 i), (13, .bool (hasN (K.take j) n)), (14, .int .i64 j)], [(10, [.str t, .sl .sh (g.map .str), .sl .sh (u.map .str)])], σ⟩) (Pr := fun j => j ≤ K.length) (μ := fun j => K.length - j) (a := 0) (by simp [hasN]) (by simp) ?_
          intro j hj
          have w2 : IntKind.i64.wrap ((j : Int) + 1) = (j : Int) + 1 := wrap64 (by omega)
          by_cases hjc : j < K.length
          · obtain ⟨k, hkx⟩ : ∃ k, K[j]? = some k := ⟨_, List.getElem?_eq_getElem hjc⟩
            have htk : K.take (j + 1) = K.take j ++ [k] := by rw [List.take_add_one, hkx]; rfl
            have hany := hasN_app (K.take j) n k
            rw [← htk] at hany
            obtain ⟨B, hB⟩ : ∃ B, hasN (K.take j) n = B := ⟨_, rfl⟩
            obtain ⟨B', hB'⟩ : ∃ B', hasN (K.take (j + 1)) n = B' := ⟨_, rfl⟩
            rw [hB, hB'] at hany
            rw [hB]
            obtain ⟨k1, k2⟩ := k
            have hNm := Name_eq k1 k2
            unfold keyAV at hNm
            simp only at hany
            obtain ⟨C, hC⟩ : ∃ C, (k1 == n) = C := ⟨_, rfl⟩
            rw [hC] at hany
            subst hany
            cases B <;> cases C
            all_goals
              simp (maxSteps := 4000000) [List.getElem?_cons_zero, List.getElem?_cons_succ, -getElem?_pos, -regionA_true, hjc]
              refine Post_bndD [] _ (by rfl) (by simp (maxSteps := 4000000) [List.getElem?_cons_zero, List.getElem?_cons_succ, ]; exact rfl) ?_
              repeat (first
                | refine PostD_go _ (by rfl) (by rfl) (by simp (maxSteps := 4000000) [List.getElem?_cons_zero, List.getElem?_cons_succ, -getElem?_pos, hkx, hx, keyFx, hNm, hC]; exact rfl) (by first | exact .inl rfl | exact .inr rfl) (by rfl) ?_
                | refine PostD_no (by rfl) (by rfl) ?_)
              refine PostD_end ?_
              simp (maxSteps := 4000000) [List.getElem?_cons_zero, List.getElem?_cons_succ, w2]
              exact ⟨j + 1, by omega, by omega, by rw [hB']; simp⟩
          · obtain rfl : j = K.length := by omega
            have hT : hasN (K.take K.length) n = true := by
              rw [List.take_length]; exact List.any_eq_true.2 ⟨k0, hk0, by simpa using hk0n⟩
            rw [hT]
            simp (maxSteps := 4000000) [List.getElem?_cons_zero, List.getElem?_cons_succ, hjc, w1]
            exact ⟨i + 1, by omega, by omega, by simp⟩
        · simp (maxSteps := 4000000) [List.getElem?_cons_zero, List.getElem?_cons_succ, hc, Tryz.results6]
theorem goodLaw_eq (s : List UInt8) (l : List (List UInt8 × List UInt8)) (hs : s.length ≤ 1048576) (h : l.length ≤ 1048576 ∧ ∀ m ∈ l, m.1.length ≤ 1048576 ∧ m.2.length ≤ 1048576) (σ : List (List AV)) : ev 6 [.str s, .sl .sh (l.map rkeyF)] σ = some (.bool true, σ) :=
  goodLaw0 s l (by omega) (by omega) (fun k hk => by have := h.2 k hk; exact ⟨by omega, by omega⟩) σ
end Go.Proofs.Tryz.Ai
end
section
/- The reference's Open. -/
namespace Go.Proofs.Tryz.Ai
open Go Go.AI Go.Proofs Go.B64
set_option maxHeartbeats 8000000
set_option maxRecDepth 4000
set_option linter.unusedVariables false

section
variable {P : Program} {h : Hint} {C : Oracle}
theorem PostD_no1 {ds : List Nat} {ops r : List Oper} {st : St} {o : Oper} {K : St → Prop} (st1 : St) (hw : wantedA ops o.guard st = some false) (hq : okAll ds st.t (tkT h o).toList = true)
    (hs : st.put o.dst (.tup []) = st1) (k : PostD (runD P h C ds ops r st1) K) : PostD (runD P h C ds ops (o :: r) st) K := PostD_no hw hq (by rw [hs]; exact k)
end
theorem trail (P : List UInt8 → Option (List UInt8 × List UInt8)) (L : List (List UInt8)) : ∃ k, k ≤ L.length ∧ (∀ i x, k ≤ i → L[i]? = some x → (P x).isSome = true) ∧ (0 < k → ∃ x, L[k - 1]? = some x ∧ (P x).isSome = false) := by
  have key : ∀ n, n ≤ L.length → (∀ i x, n ≤ i → L[i]? = some x → (P x).isSome = true) → ∃ k, k ≤ L.length ∧ (∀ i x, k ≤ i → L[i]? = some x → (P x).isSome = true) ∧ (0 < k → ∃ x, L[k - 1]? = some x ∧ (P x).isSome = false) := by
    intro n
    induction n with
    | zero => intro h1 h2; exact ⟨0, h1, h2, fun h => absurd h (by omega)⟩
    | succ n ih =>
      intro h1 h2
      obtain ⟨x, hx⟩ : ∃ x, L[n]? = some x := ⟨_, List.getElem?_eq_getElem (by omega)⟩
      cases hp : (P x).isSome with
      | false => exact ⟨n + 1, h1, h2, fun _ => ⟨x, hx, hp⟩⟩
      | true =>
        refine ih (by omega) fun i y hi hy => ?_
        rcases Nat.lt_or_ge n i with q | q
        · exact h2 i y (by omega) hy
        · have : i = n := by omega
          subst this
          rw [hx] at hy; injection hy with hy; subst hy; exact hp
  exact key L.length (Nat.le_refl _) fun i x hi hx => by rw [List.getElem?_eq_none (by omega)] at hx; cases hx
theorem unl_take (L : List (List UInt8)) (j : Nat) (x : List UInt8) (h : L[j]? = some x) : unl (L.take (j + 1)) = unl (L.take j) ++ x ++ [10] := by
  rw [List.take_add_one, h, unl_app]; simp [unl]
theorem unl_take_len (L : List (List UInt8)) (j : Nat) : (unl (L.take j)).length ≤ (unl L).length := by
  have : unl L = unl (L.take j) ++ unl (L.drop j) := by rw [← unl_app, List.take_append_drop]
  rw [this]; simp
theorem marks_at (L : List (List UInt8)) (k : Nat) (hm : ∀ i x, k ≤ i → L[i]? = some x → (markP x).isSome = true) : ∃ ms : List (List UInt8 × List UInt8), (L.drop k).filterMap markP = ms ∧ ms.length = L.length - k ∧ ∀ i x, k ≤ i → L[i]? = some x → ∃ m, ms[i - k]? = some m ∧ markP x = some m := by
  refine ⟨_, rfl, ?_⟩
  have hall : ∀ i x, (L.drop k)[i]? = some x → (markP x).isSome = true := fun i x h => by
    rw [List.getElem?_drop] at h
    exact hm _ x (by omega) h
  have e : ∀ l : List (List UInt8), (∀ (i : Nat) (x : List UInt8), l[i]? = some x → (markP x).isSome = true) → (l.filterMap markP).length = l.length ∧ ∀ (i : Nat) (x : List UInt8), l[i]? = some x → ∃ m, (l.filterMap markP)[i]? = some m ∧ markP x = some m := by
    intro l
    induction l with
    | nil => intro _; exact ⟨rfl, fun i x h => by simp at h⟩
    | cons y r ih =>
      intro h
      obtain ⟨m, hm⟩ := Option.isSome_iff_exists.1 (h 0 y (by simp))
      obtain ⟨h1, h2⟩ := ih fun i x hi => h (i + 1) x (by simpa using hi)
      rw [List.filterMap_cons, hm]
      refine ⟨by simp [h1], fun i x hi => ?_⟩
      cases i with
      | zero => simp at hi; subst hi; exact ⟨m, by simp, hm⟩
      | succ i => simp at hi; simpa using h2 i x hi
  obtain ⟨h1, h2⟩ := e _ hall
  refine ⟨by rw [h1]; simp, fun i x hi hx => h2 (i - k) x ?_⟩
  rw [List.getElem?_drop, show k + (i - k) = i by omega]; exact hx
theorem markP_len {x : List UInt8} {m : List UInt8 × List UInt8} (h : markP x = some m) : 5 ≤ m.2.length ∧ m.2.length ≤ x.length ∧ m.1.length ≤ x.length := by
  unfold markP at h
  split at h
  · split at h
    · split at h
      · split at h
        · split at h
          · rename_i b hb h5
            injection h with h; subst h
            refine ⟨h5, ?_, ?_⟩
            · have := from64_len hb
              simp at this ⊢; omega
            · simp; omega
          · cases h
        · cases h
      · cases h
    · cases h
  · cases h
theorem isKey_four (m k : List UInt8 × List UInt8) (h : 5 ≤ m.2.length) : isKey m (hK k) = (k.1 == m.1 && (idH k.1 (sha256 k.2)).take 4 == m.2.take 4) := by
  have := idN_take (idH k.1 (sha256 k.2)) m.2 (by rw [idH_len]; omega) (by omega)
  unfold isKey hK
  rw [Bool.eq_iff_iff]
  simp only [Bool.and_eq_true, beq_iff_eq, this]
theorem sameM_four (y m : List UInt8 × List UInt8) (hy : 5 ≤ y.2.length) (h : 5 ≤ m.2.length) : sameM y m = (y.1 == m.1 && m.2.take 4 == y.2.take 4) := by
  have := idN_take y.2 m.2 (by omega) (by omega)
  unfold sameM
  rw [Bool.eq_iff_iff]
  simp only [Bool.and_eq_true, beq_iff_eq, this]
  exact ⟨fun h => ⟨h.1, h.2.symm⟩, fun h => ⟨h.1, h.2.symm⟩⟩
def freeM (l : List (List UInt8 × List UInt8)) (m : List UInt8 × List UInt8) : Prop := l.any (fun y => sameM y m) = false
theorem freeM_app {l : List (List UInt8 × List UInt8)} {m n : List UInt8 × List UInt8} (h : freeM l m) (h2 : sameM n m = false) : freeM (l ++ [n]) m := by
  unfold freeM at *; rw [List.any_append, h]; simp [h2]
theorem find_ix {α : Type} {p : α → Bool} {l : List α} {x : α} (h : l.find? p = some x) : ∃ z : Nat, l[z]? = some x ∧ p x = true ∧ ∀ (z' : Nat) (y : α), z' < z → l[z']? = some y → p y = false := by
  induction l with
  | nil => simp at h
  | cons a r ih =>
    rw [List.find?_cons] at h
    cases hp : p a with
    | true =>
      rw [hp] at h
      injection h with h; subst h
      exact ⟨0, rfl, hp, fun z' y hz => absurd hz (by omega)⟩
    | false =>
      rw [hp] at h
      obtain ⟨z, h1, h2, h3⟩ := ih h
      refine ⟨z + 1, by simpa using h1, h2, fun z' y hz hy => ?_⟩
      cases z' with
      | zero => simp at hy; subst hy; exact hp
      | succ z' => exact h3 z' y (by omega) (by simpa using hy)
theorem rOpen_eq (s : List UInt8) (l : List (List UInt8 × List UInt8)) (hs : s.length ≤ 2 ^ 29) (hl : l.length ≤ 2 ^ 30) (hk : ∀ k ∈ l, k.1.length ≤ 2 ^ 20 ∧ k.2.length ≤ 2 ^ 20) (σ : List (List AV)) :
    ev 17 [.str s, .sl .sh (l.map rkeyF)] σ = some (.tup [openedAV (openN s (l.map hK)).1, .int .i64 (openN s (l.map hK)).2], σ) := by
  have hE := Ends_eq s [10] (by omega) (by simp)
  refine EV_post rfl Tryz.func17 rfl (by simp [Tryz.ntmps17]) (by kernel_rfl) (by kernel_rfl) ?_
  by_cases h1 : 131072 < s.length
  · have hR : openN s (l.map hK) = (([], [], []), 13) := by unfold openN; rw [if_pos h1]
    simp (maxSteps := 4000000) [List.getElem?_cons_zero, List.getElem?_cons_succ, h1, hR, openedAV, Tryz.results17]
  · by_cases hd : [10] <:+ s
    · have hd' : decide ([10] <:+ s) = true := decide_eq_true hd
      rw [hd'] at hE
      have hs1 : 1 ≤ s.length := by have := hd.length_le; simpa using this
      have wl : IntKind.i64.wrap ((s.length : Int) - 1) = ((s.length - 1 : Nat) : Int) := by rw [wrap64 (by omega)]; omega
      have hCu := Cut_eq (s.take (s.length - 1)) (by simp; omega) 10
      have hat := fun k hk hm hx => cutN_at markP textP markP_ne textP_end s hd k hk hm hx
      have hun : unl (splitB 10 (s.take (s.length - 1))) = s := by
        rw [← join_unl (splitB_ne _ _), join_split]; exact (suffix_snoc hd).symm
      obtain ⟨L, hL⟩ : ∃ L, splitB 10 (s.take (s.length - 1)) = L := ⟨_, rfl⟩
      rw [hL] at hCu hat hun
      have hLx : ∀ x ∈ L, x.length ≤ s.length := by
        intro x hx
        rw [← hun]
        unfold unl
        obtain ⟨i, hi⟩ := List.mem_iff_getElem?.1 hx
        have : ∀ l : List (List UInt8), x ∈ l → x.length ≤ ((l.map (· ++ [10])).flatten).length := by
          intro l
          induction l with
          | nil => intro h; cases h
          | cons y r ih =>
            intro h
            rcases List.mem_cons.1 h with rfl | h
            · simp; try omega
            · have := ih h; simp at this ⊢; omega
        exact this L hx
      have hLl : L.length ≤ s.length := by
        rw [← hun]
        have : ∀ l : List (List UInt8), l.length ≤ (unl l).length := by
          intro l
          induction l with
          | nil => simp
          | cons y r ih => rw [unl_cons]; simp; omega
        exact this L
      have hLne : ¬ L.length = 0 := by
        have := splitB_ne 10 (s.take (s.length - 1))
        rw [hL] at this
        simpa using this
      obtain ⟨k, hkL, hkm, hkx⟩ := trail markP L
      have hat' := hat k hkL hkm (fun h0 x hx => by obtain ⟨y, hy, hp⟩ := hkx h0; rw [hy] at hx; injection hx with hx; subst hx; exact hp)
      clear hat
      have hCu' : ∀ σ, ev 47 [.str (s.take (s.length - 1)), .int .u8 10] σ = some (.sl (.ex 9 1) (L.map .str), σ) := hCu
      clear hCu
      obtain ⟨Q, hQ⟩ : ∃ Q, s.take (s.length - 1) = Q := ⟨_, rfl⟩
      rw [hQ] at hCu'
      have hR0 : openN s (l.map hK) = match cutP s with
        | none => (([], [], []), 15)
        | some r => if 8 < r.2.length then (([], [], []), 14) else match loopN r.1 (l.map hK) [] [] [] r.2 with
          | .inl e => (([], [], []), e)
          | .inr q => if q.1 = [] then (([], [], []), 20) else ((r.1, q.1, q.2), 0) := by unfold openN; rw [if_neg h1]; rfl
      change cutP s = _ at hat'
      rw [hat'] at hR0
      clear hat'
      have mk : ∀ (j : Nat) (x : List UInt8), L[j]? = some x → ∀ σ, ev 48 [.str x] σ = some (.tup [.str (rmarkV x).1, .sl .sh ((rmarkV x).2.map .u8), .bool (markP x).isSome], σ) := fun j x hx => mark_eq x (by have := hLx x (List.mem_of_getElem? hx); omega)
      cases k with
      | zero =>
        have hR : openN s (l.map hK) = (([], [], []), 15) := by rw [hR0, if_pos (.inr (.inl (by omega)))]
        simp (maxSteps := 4000000) [List.getElem?_cons_zero, List.getElem?_cons_succ, h1, hE, wl, hQ, hCu']
        refine Post_loop (I := fun j : Nat => ⟨[(1, .sl .sh (l.map rkeyF)), (4, .lp 4 0), (6, .sl (.ex 9 1) (L.map .str)), (7, .int .i64 j)], [(4, [.str [], .sl .nil [], .sl .nil []])], σ⟩) (Pr := fun j => j ≤ L.length) (μ := fun j => j) (a := L.length) (by simp) (by simp) ?_
        intro j hj
        cases j with
        | zero =>
          have hLne' : ¬ 0 = L.length := fun e => hLne e.symm
          simp (maxSteps := 4000000) [List.getElem?_cons_zero, List.getElem?_cons_succ, hLne, hLne', hR, openedAV, Tryz.results17]
        | succ j =>
          obtain ⟨x, hx⟩ : ∃ x, L[j]? = some x := ⟨_, List.getElem?_eq_getElem (by omega)⟩
          have hM := mk j x hx
          have hp := hkm j x (by omega) hx
          rw [hp] at hM
          have w1 : IntKind.i64.wrap (j : Int) = (j : Int) := wrap64 (by omega)
          have c0 : (0 : Int) < (j : Int) + 1 := by omega
          simp (maxSteps := 4000000) [List.getElem?_cons_zero, List.getElem?_cons_succ, -getElem?_pos, c0, hx, hM, w1]
          omega
      | succ k =>
        obtain ⟨x0, hx0, hp0⟩ := hkx (by omega)
        simp only [Nat.add_sub_cancel] at hx0 hR0
        rw [hx0] at hR0
        have hM0 := mk k x0 hx0
        rw [hp0] at hM0
        have wk : IntKind.i64.wrap (k : Int) = (k : Int) := wrap64 (by omega)
        have ck : (0 : Int) < (k : Int) + 1 := by omega
        simp (maxSteps := 4000000) [List.getElem?_cons_zero, List.getElem?_cons_succ, h1, hE, wl, hQ, hCu']
        refine Post_loop (I := fun j : Nat => ⟨[(1, .sl .sh (l.map rkeyF)), (4, .lp 4 0), (6, .sl (.ex 9 1) (L.map .str)), (7, .int .i64 j)], [(4, [.str [], .sl .nil [], .sl .nil []])], σ⟩) (Pr := fun j => k + 1 ≤ j ∧ j ≤ L.length) (μ := fun j => j) (a := L.length) (by simp) ⟨hkL, Nat.le_refl _⟩ ?_
        rintro j ⟨hj1, hj2⟩
        by_cases hjk : k + 1 = j
        · subst hjk
          by_cases b1 : k + 1 = L.length
          · have hR : openN s (l.map hK) = (([], [], []), 15) := by rw [hR0, if_pos (.inl b1)]
            have b1' : (k : Int) + 1 = (L.length : Int) := by omega
            simp (maxSteps := 4000000) [List.getElem?_cons_zero, List.getElem?_cons_succ, -getElem?_pos, ck, hx0, hM0, wk, eq_true b1', hR, openedAV, Tryz.results17]
          · by_cases b2 : k + 1 < 2
            · have hR : openN s (l.map hK) = (([], [], []), 15) := by rw [hR0, if_pos (.inr (.inl b2))]
              have b1' : ¬ (k : Int) + 1 = (L.length : Int) := by omega
              have b2' : (k : Int) + 1 < 2 := by omega
              simp (maxSteps := 4000000) [List.getElem?_cons_zero, List.getElem?_cons_succ, -getElem?_pos, ck, hx0, hM0, wk, b1', b2', hR, openedAV, Tryz.results17]
            · have b1' : ¬ (k : Int) + 1 = (L.length : Int) := by omega
              have b2' : ¬ (k : Int) + 1 < 2 := by omega
              by_cases b3 : x0 = []
              · subst b3
                rw [if_neg (by simp; omega)] at hR0
                obtain ⟨t, ht⟩ : ∃ t, unl (L.take k) = t := ⟨_, rfl⟩
                have htl : t.length ≤ s.length := by
                  have := unl_take_len L k
                  rw [hun, ht] at this; exact this
                obtain ⟨ms, hms, hml, hmat⟩ := marks_at L (k + 1) hkm
                rw [ht, hms] at hR0
                simp (maxSteps := 4000000) [List.getElem?_cons_zero, List.getElem?_cons_succ, -getElem?_pos, ck, hx0, hM0, wk, b1', b2']
                refine Post_loop (I := fun j : Nat => ⟨[(1, .sl .sh (l.map rkeyF)), (4, .lp 4 0), (6, .sl (.ex 9 1) (L.map .str)), (7, .int .i64 ((k : Int) + 1)), (11, .str (unl (L.take j))), (12, .int .i64 j)], [(4, [.str [], .sl .nil [], .sl .nil []])], σ⟩) (Pr := fun j => j ≤ k) (μ := fun j => k - j) (a := 0) (by simp) (by simp) ?_
                intro j hj
                by_cases hjk : j < k
                · obtain ⟨x, hx⟩ : ∃ x, L[j]? = some x := ⟨_, List.getElem?_eq_getElem (by omega)⟩
                  have hut := unl_take L j x hx
                  have hxl := hLx x (List.mem_of_getElem? hx)
                  have hul := unl_take_len L j
                  rw [hun] at hul
                  have w1 : IntKind.i64.wrap ((j : Int) + 1) = (j : Int) + 1 := wrap64 (by omega)
                  have m1 : (unl (L.take j)).length + x.length ≤ most := by unfold most; omega
                  have m2 : (unl (L.take j)).length + x.length + 1 ≤ most := by unfold most; omega
                  obtain ⟨U, hU⟩ : ∃ U, unl (L.take j) = U := ⟨_, rfl⟩
                  rw [hU] at hut m1 m2 ⊢
                  simp (maxSteps := 4000000) [List.getElem?_cons_zero, List.getElem?_cons_succ, -getElem?_pos, wk, hjk, hx, w1, m1, m2]
                  exact ⟨j + 1, by omega, by omega, by simp [hut]⟩
                · obtain rfl : j = k := by omega
                  rw [ht]
                  have hbody := rbody_eq t (by omega)
                  cases htp : textP t with
                  | false =>
                    rw [htp] at hbody hR0
                    have hR : openN s (l.map hK) = (([], [], []), 15) := by rw [hR0]; rfl
                    simp (maxSteps := 4000000) [List.getElem?_cons_zero, List.getElem?_cons_succ, -getElem?_pos, wk, hbody, hR, openedAV, Tryz.results17]
                  | true =>
                    rw [htp, if_pos rfl] at hR0
                    dsimp only at hR0
                    rw [htp] at hbody
                    have w8 : IntKind.i64.wrap ((L.length : Int) - ((j : Int) + 1)) = (ms.length : Int) := by rw [wrap64 (by omega), hml]; omega
                    by_cases h8 : 8 < ms.length
                    · rw [if_pos h8] at hR0
                      simp (maxSteps := 4000000) [List.getElem?_cons_zero, List.getElem?_cons_succ, -getElem?_pos, wk, hbody, w8, h8, hR0, openedAV, Tryz.results17]
                    · rw [if_neg h8] at hR0
                      simp (maxSteps := 4000000) [List.getElem?_cons_zero, List.getElem?_cons_succ, -getElem?_pos, wk, hbody, w8, h8]
                      clear hE hd hd' wl hCu' hbody htp w8 wk ck b1' b2' hM0 hp0 hx0
                      have hml8 : ms.length ≤ 8 := by omega
                      refine Post_loop (I := fun p : Nat × List (List UInt8) × List (List UInt8) × List (List AV) => ⟨[(1, .sl .sh (l.map rkeyF)), (4, .lp 4 0), (6, .sl (.ex 9 1) (L.map .str)), (7, .int .i64 ((j : Int) + 1)), (11, .str t), (14, .gp σ.length 0 (some (44, 3))), (15, .int .i64 p.1)], [(4, [.str [], .sl .nil [], .sl .nil []])], p.2.2.2⟩)
                        (Pr := fun p => j + 1 ≤ p.1 ∧ p.1 ≤ L.length ∧ loopN t (l.map hK) [] [] [] ms = loopN t (l.map hK) (ms.take (p.1 - (j + 1))) p.2.1 p.2.2.1 (ms.drop (p.1 - (j + 1))) ∧ CInv σ p.2.2.2 [.str t, gd p.2.1, gd p.2.2.1] ∧ p.2.1.length ≤ p.1 ∧ p.2.2.1.length ≤ p.1) (μ := fun p => L.length - p.1) (a := (j + 1, [], [], σ ++ [[.str t, .sl .nil [], .sl .nil []]])) (by simp) ⟨by simp, by omega, by simp, ⟨by simp [gd], by simp⟩, by simp, by simp⟩ ?_
                      rintro ⟨q, g, u, S⟩ ⟨hq1, hq2, hlo, hC, hgl, hul⟩
                      simp only at hq1 hq2 hlo hC hgl hul ⊢
                      have w1 : IntKind.i64.wrap ((q : Int) + 1) = (q : Int) + 1 := wrap64 (by omega)
                      by_cases hqc : q < L.length
                      · obtain ⟨x, hx⟩ : ∃ x, L[q]? = some x := ⟨_, List.getElem?_eq_getElem hqc⟩
                        obtain ⟨m, hm, hmx⟩ := hmat q x hq1 hx
                        have hM := mk q x hx
                        rw [hmx, rmarkV_some hmx] at hM
                        obtain ⟨hm5, hm6, hm7⟩ := markP_len hmx
                        have hxl := hLx x (List.mem_of_getElem? hx)
                        have hil : q - (j + 1) < ms.length := by omega
                        have hme : ms[q - (j + 1)] = m := (List.getElem?_eq_some_iff.1 hm).2
                        have hdr : ms.drop (q - (j + 1)) = m :: ms.drop (q - (j + 1) + 1) := by rw [List.drop_eq_getElem_cons hil, hme]
                        have htk1 : ms.take (q - (j + 1) + 1) = ms.take (q - (j + 1)) ++ [m] := by rw [List.take_add_one, hm]; rfl
                        rw [hdr, loopN_cons] at hlo
                        have hm4 : 4 ≤ m.2.length := by omega
                        obtain ⟨V4, hV4⟩ : ∃ V4 : List AV, (m.2.map AV.u8).take 4 = V4 := ⟨_, rfl⟩
                        obtain ⟨D4, hD4⟩ : ∃ D4 : List AV, (m.2.map AV.u8).drop 4 = D4 := ⟨_, rfl⟩
                        have hT4 : List.take m.2.length (m.2.map AV.u8) = m.2.map AV.u8 := List.take_of_length_le (by simp)
                        simp (maxSteps := 4000000) [List.getElem?_cons_zero, List.getElem?_cons_succ, -getElem?_pos, hqc, hx, hM]
                        refine Post_loop (I := fun r : Nat => ⟨[(1, .sl .sh (l.map rkeyF)), (4, .lp 4 0), (6, .sl (.ex 9 1) (L.map .str)), (7, .int .i64 ((j : Int) + 1)), (11, .str t), (14, .gp σ.length 0 (some (44, 3))), (15, .int .i64 q), (16, .str m.1), (17, .sl .sh (m.2.map .u8)), (19, .int .i64 r)], [(4, [.str [], .sl .nil [], .sl .nil []])], S⟩)
                          (Pr := fun r => j + 1 ≤ r ∧ r ≤ q ∧ freeM (ms.take (r - (j + 1))) m) (μ := fun r => q - r) (a := j + 1) (by simp) ⟨by omega, by omega, by simp [freeM]⟩ ?_
                        rintro r ⟨hr1, hr2, hrn⟩
                        have w2 : IntKind.i64.wrap ((r : Int) + 1) = (r : Int) + 1 := wrap64 (by omega)
                        by_cases hrc : r < q
                        · obtain ⟨y, hy⟩ : ∃ y, L[r]? = some y := ⟨_, List.getElem?_eq_getElem (by omega)⟩
                          obtain ⟨n, hn, hny⟩ := hmat r y hr1 hy
                          have hMr := mk r y hy
                          rw [hny, rmarkV_some hny] at hMr
                          obtain ⟨hn5, hn6, hn7⟩ := markP_len hny
                          have hn4 : 4 ≤ n.2.length := by omega
                          obtain ⟨Y4, hY4⟩ : ∃ Y4 : List AV, (n.2.map AV.u8).take 4 = Y4 := ⟨_, rfl⟩
                          have hSB : ∀ σ, ev 20 [.sl .sh V4, .sl .sh Y4] σ = some (.bool (m.2.take 4 == n.2.take 4), σ) := fun σ => by
                            have := SameBytes_eq .sh .sh (m.2.take 4) (n.2.take 4) (by simp; omega) σ
                            rw [List.map_take, List.map_take, hV4, hY4] at this; exact this
                          have hsm := sameM_four n m hn5 hm5
                          have hn' : ms[r - (j + 1)]? = some n := hn
                          have htk2 : ms.take (r + 1 - (j + 1)) = ms.take (r - (j + 1)) ++ [n] := by rw [show r + 1 - (j + 1) = r - (j + 1) + 1 by omega, List.take_add_one, hn]; rfl
                          obtain ⟨B4, hB4⟩ : ∃ B4, (m.2.take 4 == n.2.take 4) = B4 := ⟨_, rfl⟩
                          rw [hB4] at hSB hsm
                          cases hsq : sameM n m with
                          | true =>
                            rw [hsm] at hsq
                            simp only [Bool.and_eq_true] at hsq
                            obtain ⟨c1, c2⟩ := hsq
                            have hany : (ms.take (q - (j + 1))).any (fun y => sameM y m) = true := List.any_eq_true.2 ⟨n, List.mem_iff_getElem?.2 ⟨r - (j + 1), by rw [List.getElem?_take, if_pos (by omega)]; exact hn⟩, by rw [hsm, c1, c2]; rfl⟩
                            rw [if_pos hany] at hlo
                            rw [hlo] at hR0
                            dsimp only at hR0
                            have hlow := hC.low
                            have htkS := hC.2
                            simp (maxSteps := 4000000) [List.getElem?_cons_zero, List.getElem?_cons_succ, -getElem?_pos, -regionA_true, hrc, hy, hMr]
                            refine Post_bndD [] _ (by rfl) (by simp (maxSteps := 4000000) [List.getElem?_cons_zero, List.getElem?_cons_succ, ]; exact rfl) ?_
                            repeat (first
                              | refine PostD_go _ (by rfl) (by rfl) (by simp (maxSteps := 4000000) [List.getElem?_cons_zero, List.getElem?_cons_succ, hV4, hY4, hm4, hn4, hSB]; exact rfl) (by first | exact .inl rfl | exact .inr rfl) (by rfl) ?_
                              | refine PostD_no (by rfl) (by rfl) ?_)
                            refine PostD_end ?_
                            simp (maxSteps := 4000000) [List.getElem?_cons_zero, List.getElem?_cons_succ, c1, c2, hR0, openedAV, need_of hlow, htkS, Tryz.results17]
                          | false =>
                            have hfr : freeM (ms.take (r + 1 - (j + 1))) m := by rw [htk2]; exact freeM_app hrn hsq
                            rw [hsm] at hsq
                            cases c1 : (n.1 == m.1) with
                            | false =>
                              simp (maxSteps := 4000000) [List.getElem?_cons_zero, List.getElem?_cons_succ, -getElem?_pos, -regionA_true, hrc, hy, hMr]
                              refine Post_bndD [] _ (by rfl) (by simp (maxSteps := 4000000) [List.getElem?_cons_zero, List.getElem?_cons_succ, ]; exact rfl) ?_
                              repeat (first
                                | refine PostD_go _ (by rfl) (by rfl) (by simp (maxSteps := 4000000) [List.getElem?_cons_zero, List.getElem?_cons_succ, hV4, hY4, hm4, hn4, hSB]; exact rfl) (by first | exact .inl rfl | exact .inr rfl) (by rfl) ?_
                                | refine PostD_no (by rfl) (by rfl) ?_)
                              refine PostD_end ?_
                              simp (maxSteps := 4000000) [List.getElem?_cons_zero, List.getElem?_cons_succ, c1, w2]
                              exact ⟨r + 1, ⟨by omega, by omega, hfr⟩, by omega, by simp⟩
                            | true =>
                              rw [c1] at hsq
                              have c2 : B4 = false := by simpa using hsq
                              simp (maxSteps := 4000000) [List.getElem?_cons_zero, List.getElem?_cons_succ, -getElem?_pos, -regionA_true, hrc, hy, hMr]
                              refine Post_bndD [] _ (by rfl) (by simp (maxSteps := 4000000) [List.getElem?_cons_zero, List.getElem?_cons_succ, ]; exact rfl) ?_
                              repeat (first
                                | refine PostD_go _ (by rfl) (by rfl) (by simp (maxSteps := 4000000) [List.getElem?_cons_zero, List.getElem?_cons_succ, hV4, hY4, hm4, hn4, hSB]; exact rfl) (by first | exact .inl rfl | exact .inr rfl) (by rfl) ?_
                                | refine PostD_no (by rfl) (by rfl) ?_)
                              refine PostD_end ?_
                              simp (maxSteps := 4000000) [List.getElem?_cons_zero, List.getElem?_cons_succ, c1, c2, w2]
                              exact ⟨r + 1, ⟨by omega, by omega, hfr⟩, by omega, by simp⟩
                        · obtain rfl : r = q := by omega
                          have hno : (ms.take (r - (j + 1))).any (fun y => sameM y m) = false := hrn
                          rw [hno, if_neg (by simp)] at hlo
                          have hfm : (l.map hK).find? (isKey m) = (l.find? (fun k => isKey m (hK k))).map hK := List.find?_map ..
                          have hlow := hC.low
                          have htkS := hC.2
                          have hg0 := hC.1
                          have hlt := hC.lt
                          have hgset : ∀ c, (S.set σ.length c)[σ.length]? = some c := fun c => by rw [List.getElem?_set, if_pos rfl, if_pos hlt]
                          have hset2 : ∀ c c', (S.set σ.length c).set σ.length c' = S.set σ.length c' := fun c c' => List.set_set ..
                          have w4 : ∀ v : Nat, v < l.length → IntKind.i64.wrap ((v : Int) + 1) = (v : Int) + 1 := fun v hv => wrap64 (by omega)
                          -- what each key says
                          have keyAt : ∀ (v : Nat) (key : List UInt8 × List UInt8), l[v]? = some key → ∃ (I4 : List AV) (B S4 : Bool), isKey m (hK key) = (key.1 == m.1 && B) ∧ (sigH (hK key).2 t == m.2.drop 4) = S4 ∧
                              (∀ σ, ev 50 [.agg [.str key.1, .sl .sh (key.2.map .u8)]] σ = some (.sl .sh I4, σ)) ∧ (∀ σ, ev 20 [.sl .sh I4, .sl .sh V4] σ = some (.bool B, σ)) ∧
                              ∃ G4 : List AV, (∀ σ, ev 21 [.agg [.str key.1, .sl .sh (key.2.map .u8)], .str t] σ = some (.sl (.ex 5 1) G4, σ)) ∧ (∀ σ, ev 20 [.sl .sh G4, .sl .sh D4] σ = some (.bool S4, σ)) := by
                            intro v key hv
                            have hkk := hk key (List.mem_of_getElem? hv)
                            refine ⟨_, _, _, isKey_four m key hm5, rfl, rID_eq key.1 key.2 hkk.1 hkk.2, fun σ => ?_, _, Sig_eq key.1 key.2 t hkk.2 (by omega), fun σ => ?_⟩
                            · have := SameBytes_eq .sh .sh ((idH key.1 (sha256 key.2)).take 4) (m.2.take 4) (by simp; omega) σ
                              rw [List.map_take (l := m.2), hV4] at this; exact this
                            · have := SameBytes_eq .sh .sh (sigH (sha256 key.2) t) (m.2.drop 4) (by rw [sigH_len]; omega) σ
                              rw [List.map_drop (l := m.2), hD4] at this; exact this
                          have wq : IntKind.i64.wrap ((r : Int) + 1) = (r : Int) + 1 := w1
                          cases hfk : l.find? (fun k => isKey m (hK k)) with
                          | none =>
                            have hf2 : (l.map hK).find? (isKey m) = none := by rw [hfm, hfk]; rfl
                            rw [hf2] at hlo
                            simp only at hlo
                            have hnk := List.find?_eq_none.1 hfk
                            simp (maxSteps := 4000000) [List.getElem?_cons_zero, List.getElem?_cons_succ, hrc]
                            refine Post_loop (I := fun v : Nat => ⟨[(1, .sl .sh (l.map rkeyF)), (4, .lp 4 0), (6, .sl (.ex 9 1) (L.map .str)), (7, .int .i64 ((j : Int) + 1)), (11, .str t), (14, .gp σ.length 0 (some (44, 3))), (15, .int .i64 r), (16, .str m.1), (17, .sl .sh (m.2.map .u8)), (24, .bool false), (25, .int .i64 v)], [(4, [.str [], .sl .nil [], .sl .nil []])], S⟩)
                              (Pr := fun v => v ≤ l.length) (μ := fun v => l.length - v) (a := 0) (by simp) (by simp) ?_
                            intro v hv
                            by_cases hvc : v < l.length
                            · obtain ⟨key, hkey⟩ : ∃ key, l[v]? = some key := ⟨_, List.getElem?_eq_getElem hvc⟩
                              obtain ⟨I4, B, S4, hi1, hi2, hi3, hi4, G4, hi5, hi6⟩ := keyAt v key hkey
                              have hnv : isKey m (hK key) = false := by simpa using hnk key (List.mem_of_getElem? hkey)
                              rw [hi1] at hnv
                              have w5 := w4 v hvc
                              cases c1 : (key.1 == m.1) with
                              | false =>
                                simp (maxSteps := 4000000) [List.getElem?_cons_zero, List.getElem?_cons_succ, -getElem?_pos, -regionA_true, hvc]
                                refine Post_bndD [] _ (by rfl) (by simp (maxSteps := 4000000) [List.getElem?_cons_zero, List.getElem?_cons_succ, ]; exact rfl) ?_
                                repeat (first
                                  | refine PostD_go _ (by rfl) (by rfl) (by simp (maxSteps := 4000000) [List.getElem?_cons_zero, List.getElem?_cons_succ, -getElem?_pos, hkey, rkeyFx, hi3, hi4, hV4, hm4, c1]; exact rfl) (by first | exact .inl rfl | exact .inr rfl) (by rfl) ?_
                                  | refine PostD_no1 _ (by rfl) (by rfl) (by simp (maxSteps := 4000000) [List.getElem?_cons_zero, List.getElem?_cons_succ, ]; exact rfl) ?_)
                                refine PostD_end ?_
                                simp (maxSteps := 4000000) [List.getElem?_cons_zero, List.getElem?_cons_succ, -getElem?_pos, -regionA_true]
                                refine Post_bndD [] _ (by rfl) (by simp (maxSteps := 4000000) [List.getElem?_cons_zero, List.getElem?_cons_succ, ]; exact rfl) ?_
                                repeat (first
                                  | refine PostD_go _ (by rfl) (by rfl) (by simp (maxSteps := 4000000) [List.getElem?_cons_zero, List.getElem?_cons_succ, -getElem?_pos, hkey]; exact rfl) (by first | exact .inl rfl | exact .inr rfl) (by rfl) ?_
                                  | refine PostD_no1 _ (by rfl) (by rfl) (by simp (maxSteps := 4000000) [List.getElem?_cons_zero, List.getElem?_cons_succ, ]; exact rfl) ?_)
                                refine PostD_end ?_
                                simp (maxSteps := 4000000) [List.getElem?_cons_zero, List.getElem?_cons_succ, w5]
                                exact ⟨v + 1, by omega, by omega, by simp⟩
                              | true =>
                                rw [c1] at hnv
                                have c2 : B = false := by simpa using hnv
                                subst c2
                                simp (maxSteps := 4000000) [List.getElem?_cons_zero, List.getElem?_cons_succ, -getElem?_pos, -regionA_true, hvc]
                                refine Post_bndD [] _ (by rfl) (by simp (maxSteps := 4000000) [List.getElem?_cons_zero, List.getElem?_cons_succ, ]; exact rfl) ?_
                                repeat (first
                                  | refine PostD_go _ (by rfl) (by rfl) (by simp (maxSteps := 4000000) [List.getElem?_cons_zero, List.getElem?_cons_succ, -getElem?_pos, hkey, rkeyFx, hi3, hi4, hV4, hm4, c1]; exact rfl) (by first | exact .inl rfl | exact .inr rfl) (by rfl) ?_
                                  | refine PostD_no1 _ (by rfl) (by rfl) (by simp (maxSteps := 4000000) [List.getElem?_cons_zero, List.getElem?_cons_succ, ]; exact rfl) ?_)
                                refine PostD_end ?_
                                simp (maxSteps := 4000000) [List.getElem?_cons_zero, List.getElem?_cons_succ, -getElem?_pos, -regionA_true]
                                refine Post_bndD [] _ (by rfl) (by simp (maxSteps := 4000000) [List.getElem?_cons_zero, List.getElem?_cons_succ, ]; exact rfl) ?_
                                repeat (first
                                  | refine PostD_go _ (by rfl) (by rfl) (by simp (maxSteps := 4000000) [List.getElem?_cons_zero, List.getElem?_cons_succ, -getElem?_pos, hkey]; exact rfl) (by first | exact .inl rfl | exact .inr rfl) (by rfl) ?_
                                  | refine PostD_no1 _ (by rfl) (by rfl) (by simp (maxSteps := 4000000) [List.getElem?_cons_zero, List.getElem?_cons_succ, ]; exact rfl) ?_)
                                refine PostD_end ?_
                                simp (maxSteps := 4000000) [List.getElem?_cons_zero, List.getElem?_cons_succ, w5]
                                exact ⟨v + 1, by omega, by omega, by simp⟩
                            · have hvl : v = l.length := by omega
                              have hC2 := hC.set [.str t, gd g, gd (u ++ [m.1])]
                              have hC3 := hC2
                              rw [gd_app] at hC3
                              obtain ⟨G, hG⟩ : ∃ G, gd g = G := ⟨_, rfl⟩
                              rw [hG] at hg0 hC3
                              have e1 : r + 1 - (j + 1) = r - (j + 1) + 1 := by omega
                              cases u with
                              | nil =>
                                simp only [gd] at hg0
                                simp (maxSteps := 4000000) [List.getElem?_cons_zero, List.getElem?_cons_succ, -getElem?_pos, hvc, hg0, hgset, hset2, hlt, one_most, wq]
                                refine ⟨r + 1, g, [] ++ [m.1], _, ⟨by omega, by omega, by rw [e1, htk1]; exact hlo, hC2, by omega, by simp⟩, by omega, rfl, ?_⟩
                                rw [hG]; rfl
                              | cons u0 ur =>
                                simp only [gd] at hg0
                                have hmost : ur.length + 1 + 1 ≤ most := by simp at hul; unfold most; omega
                                simp (maxSteps := 4000000) [List.getElem?_cons_zero, List.getElem?_cons_succ, -getElem?_pos, hvc, hg0, hgset, hset2, hlt, one_most, hmost, wq]
                                refine ⟨r + 1, g, (u0 :: ur) ++ [m.1], _, ⟨by omega, by omega, by rw [e1, htk1]; exact hlo, hC2, by omega, by simp at hul ⊢; omega⟩, by omega, rfl, ?_⟩
                                rw [hG]; simp [gd]
                          | some k0 =>
                            have hf2 : (l.map hK).find? (isKey m) = some (hK k0) := by rw [hfm, hfk]; rfl
                            rw [hf2] at hlo
                            simp only at hlo
                            obtain ⟨z, hz0, hz1, hz2⟩ := find_ix hfk
                            have hzl := (List.getElem?_eq_some_iff.1 hz0).1
                            simp (maxSteps := 4000000) [List.getElem?_cons_zero, List.getElem?_cons_succ, hrc]
                            refine Post_loop (I := fun p : Nat × Bool => ⟨[(1, .sl .sh (l.map rkeyF)), (4, .lp 4 0), (6, .sl (.ex 9 1) (L.map .str)), (7, .int .i64 ((j : Int) + 1)), (11, .str t), (14, .gp σ.length 0 (some (44, 3))), (15, .int .i64 r), (16, .str m.1), (17, .sl .sh (m.2.map .u8)), (24, .bool p.2), (25, .int .i64 p.1)], [(4, [.str [], .sl .nil [], .sl .nil []])], S⟩)
                              (Pr := fun p => (p.2 = false ∧ p.1 ≤ z) ∨ (p.2 = true ∧ p.1 = z + 1 ∧ (sigH (hK k0).2 t == m.2.drop 4) = true)) (μ := fun p => l.length - p.1) (a := (0, false)) (by simp) (by simp) ?_
                            rintro ⟨v, b⟩ (⟨hb, hv⟩ | ⟨hb, hv, hsg⟩)
                            · simp only at hb hv
                              subst hb
                              have hvc : v < l.length := by omega
                              obtain ⟨key, hkey⟩ : ∃ key, l[v]? = some key := ⟨_, List.getElem?_eq_getElem hvc⟩
                              obtain ⟨I4, B, S4, hi1, hi2, hi3, hi4, G4, hi5, hi6⟩ := keyAt v key hkey
                              have w5 := w4 v hvc
                              by_cases hvz : v = z
                              · subst hvz
                                rw [hz0] at hkey
                                injection hkey with hkey; subst hkey
                                rw [hi1] at hz1
                                simp only [Bool.and_eq_true] at hz1
                                obtain ⟨c1, c2⟩ := hz1
                                subst c2
                                rw [hi2] at hlo
                                cases S4 with
                                | false =>
                                  rw [if_neg (by simp)] at hlo
                                  rw [hlo] at hR0
                                  dsimp only at hR0
                                  simp (maxSteps := 4000000) [List.getElem?_cons_zero, List.getElem?_cons_succ, -getElem?_pos, -regionA_true, hvc]
                                  refine Post_bndD [] _ (by rfl) (by simp (maxSteps := 4000000) [List.getElem?_cons_zero, List.getElem?_cons_succ, ]; exact rfl) ?_
                                  repeat (first
                                    | refine PostD_go _ (by rfl) (by rfl) (by simp (maxSteps := 4000000) [List.getElem?_cons_zero, List.getElem?_cons_succ, -getElem?_pos, hz0, rkeyFx, hi3, hi4, hV4, hm4, c1]; exact rfl) (by first | exact .inl rfl | exact .inr rfl) (by rfl) ?_
                                    | refine PostD_no1 _ (by rfl) (by rfl) (by simp (maxSteps := 4000000) [List.getElem?_cons_zero, List.getElem?_cons_succ, ]; exact rfl) ?_)
                                  refine PostD_end ?_
                                  simp (maxSteps := 4000000) [List.getElem?_cons_zero, List.getElem?_cons_succ, -getElem?_pos, -regionA_true]
                                  refine Post_bndD [] _ (by rfl) (by simp (maxSteps := 4000000) [List.getElem?_cons_zero, List.getElem?_cons_succ, ]; exact rfl) ?_
                                  repeat (first
                                    | refine PostD_go _ (by rfl) (by rfl) (by simp (maxSteps := 4000000) [List.getElem?_cons_zero, List.getElem?_cons_succ, -getElem?_pos, hz0, rkeyFx, hi5, hi6, hT4, hD4, hm4]; exact rfl) (by first | exact .inl rfl | exact .inr rfl) (by rfl) ?_
                                    | refine PostD_no1 _ (by rfl) (by rfl) (by simp (maxSteps := 4000000) [List.getElem?_cons_zero, List.getElem?_cons_succ, ]; exact rfl) ?_)
                                  refine PostD_end ?_
                                  simp (maxSteps := 4000000) [List.getElem?_cons_zero, List.getElem?_cons_succ, hR0, openedAV, need_of hlow, htkS, Tryz.results17]
                                | true =>
                                  simp (maxSteps := 4000000) [List.getElem?_cons_zero, List.getElem?_cons_succ, -getElem?_pos, -regionA_true, hvc]
                                  refine Post_bndD [] _ (by rfl) (by simp (maxSteps := 4000000) [List.getElem?_cons_zero, List.getElem?_cons_succ, ]; exact rfl) ?_
                                  repeat (first
                                    | refine PostD_go _ (by rfl) (by rfl) (by simp (maxSteps := 4000000) [List.getElem?_cons_zero, List.getElem?_cons_succ, -getElem?_pos, hz0, rkeyFx, hi3, hi4, hV4, hm4, c1]; exact rfl) (by first | exact .inl rfl | exact .inr rfl) (by rfl) ?_
                                    | refine PostD_no1 _ (by rfl) (by rfl) (by simp (maxSteps := 4000000) [List.getElem?_cons_zero, List.getElem?_cons_succ, ]; exact rfl) ?_)
                                  refine PostD_end ?_
                                  simp (maxSteps := 4000000) [List.getElem?_cons_zero, List.getElem?_cons_succ, -getElem?_pos, -regionA_true]
                                  refine Post_bndD [] _ (by rfl) (by simp (maxSteps := 4000000) [List.getElem?_cons_zero, List.getElem?_cons_succ, ]; exact rfl) ?_
                                  repeat (first
                                    | refine PostD_go _ (by rfl) (by rfl) (by simp (maxSteps := 4000000) [List.getElem?_cons_zero, List.getElem?_cons_succ, -getElem?_pos, hz0, rkeyFx, hi5, hi6, hT4, hD4, hm4]; exact rfl) (by first | exact .inl rfl | exact .inr rfl) (by rfl) ?_
                                    | refine PostD_no1 _ (by rfl) (by rfl) (by simp (maxSteps := 4000000) [List.getElem?_cons_zero, List.getElem?_cons_succ, ]; exact rfl) ?_)
                                  refine PostD_end ?_
                                  simp (maxSteps := 4000000) [List.getElem?_cons_zero, List.getElem?_cons_succ, w5]
                                  exact ⟨v + 1, ⟨rfl, by simpa using hi2⟩, by omega, by simp⟩
                              · have hnv := hz2 v key (by omega) hkey
                                rw [hi1] at hnv
                                cases c1 : (key.1 == m.1) with
                                | false =>
                                  simp (maxSteps := 4000000) [List.getElem?_cons_zero, List.getElem?_cons_succ, -getElem?_pos, -regionA_true, hvc]
                                  refine Post_bndD [] _ (by rfl) (by simp (maxSteps := 4000000) [List.getElem?_cons_zero, List.getElem?_cons_succ, ]; exact rfl) ?_
                                  repeat (first
                                    | refine PostD_go _ (by rfl) (by rfl) (by simp (maxSteps := 4000000) [List.getElem?_cons_zero, List.getElem?_cons_succ, -getElem?_pos, hkey, rkeyFx, hi3, hi4, hV4, hm4, c1]; exact rfl) (by first | exact .inl rfl | exact .inr rfl) (by rfl) ?_
                                    | refine PostD_no1 _ (by rfl) (by rfl) (by simp (maxSteps := 4000000) [List.getElem?_cons_zero, List.getElem?_cons_succ, ]; exact rfl) ?_)
                                  refine PostD_end ?_
                                  simp (maxSteps := 4000000) [List.getElem?_cons_zero, List.getElem?_cons_succ, -getElem?_pos, -regionA_true]
                                  refine Post_bndD [] _ (by rfl) (by simp (maxSteps := 4000000) [List.getElem?_cons_zero, List.getElem?_cons_succ, ]; exact rfl) ?_
                                  repeat (first
                                    | refine PostD_go _ (by rfl) (by rfl) (by simp (maxSteps := 4000000) [List.getElem?_cons_zero, List.getElem?_cons_succ, -getElem?_pos, hkey]; exact rfl) (by first | exact .inl rfl | exact .inr rfl) (by rfl) ?_
                                    | refine PostD_no1 _ (by rfl) (by rfl) (by simp (maxSteps := 4000000) [List.getElem?_cons_zero, List.getElem?_cons_succ, ]; exact rfl) ?_)
                                  refine PostD_end ?_
                                  simp (maxSteps := 4000000) [List.getElem?_cons_zero, List.getElem?_cons_succ, w5]
                                  exact ⟨v + 1, by omega, by omega, by simp⟩
                                | true =>
                                  rw [c1] at hnv
                                  have c2 : B = false := by simpa using hnv
                                  subst c2
                                  simp (maxSteps := 4000000) [List.getElem?_cons_zero, List.getElem?_cons_succ, -getElem?_pos, -regionA_true, hvc]
                                  refine Post_bndD [] _ (by rfl) (by simp (maxSteps := 4000000) [List.getElem?_cons_zero, List.getElem?_cons_succ, ]; exact rfl) ?_
                                  repeat (first
                                    | refine PostD_go _ (by rfl) (by rfl) (by simp (maxSteps := 4000000) [List.getElem?_cons_zero, List.getElem?_cons_succ, -getElem?_pos, hkey, rkeyFx, hi3, hi4, hV4, hm4, c1]; exact rfl) (by first | exact .inl rfl | exact .inr rfl) (by rfl) ?_
                                    | refine PostD_no1 _ (by rfl) (by rfl) (by simp (maxSteps := 4000000) [List.getElem?_cons_zero, List.getElem?_cons_succ, ]; exact rfl) ?_)
                                  refine PostD_end ?_
                                  simp (maxSteps := 4000000) [List.getElem?_cons_zero, List.getElem?_cons_succ, -getElem?_pos, -regionA_true]
                                  refine Post_bndD [] _ (by rfl) (by simp (maxSteps := 4000000) [List.getElem?_cons_zero, List.getElem?_cons_succ, ]; exact rfl) ?_
                                  repeat (first
                                    | refine PostD_go _ (by rfl) (by rfl) (by simp (maxSteps := 4000000) [List.getElem?_cons_zero, List.getElem?_cons_succ, -getElem?_pos, hkey]; exact rfl) (by first | exact .inl rfl | exact .inr rfl) (by rfl) ?_
                                    | refine PostD_no1 _ (by rfl) (by rfl) (by simp (maxSteps := 4000000) [List.getElem?_cons_zero, List.getElem?_cons_succ, ]; exact rfl) ?_)
                                  refine PostD_end ?_
                                  simp (maxSteps := 4000000) [List.getElem?_cons_zero, List.getElem?_cons_succ, w5]
                                  exact ⟨v + 1, by omega, by omega, by simp⟩
                            · simp only at hb hv
                              subst hb hv
                              rw [if_pos hsg] at hlo
                              have hC2 := hC.set [.str t, gd (g ++ [m.1]), gd u]
                              have hC3 := hC2
                              rw [gd_app] at hC3
                              obtain ⟨U, hU⟩ : ∃ U, gd u = U := ⟨_, rfl⟩
                              rw [hU] at hg0 hC3
                              have e1 : r + 1 - (j + 1) = r - (j + 1) + 1 := by omega
                              cases g with
                              | nil =>
                                simp only [gd] at hg0
                                obtain ⟨Z, hz3⟩ : ∃ Z : Prop, ((z : Int) + 1 < (l.length : Int)) = Z := ⟨_, rfl⟩
                                by_cases hZ : Z
                                all_goals
                                  simp (maxSteps := 4000000) [List.getElem?_cons_zero, List.getElem?_cons_succ, -getElem?_pos, hz3, hZ, hg0, hgset, hset2, hlt, one_most, wq]
                                  refine ⟨r + 1, [] ++ [m.1], u, _, ⟨by omega, by omega, by rw [e1, htk1]; exact hlo, hC2, by simp, by omega⟩, by omega, rfl, ?_⟩
                                  rw [hU]; rfl
                              | cons g0 gr =>
                                simp only [gd] at hg0
                                have hmost : gr.length + 1 + 1 ≤ most := by simp at hgl; unfold most; omega
                                obtain ⟨Z, hz3⟩ : ∃ Z : Prop, ((z : Int) + 1 < (l.length : Int)) = Z := ⟨_, rfl⟩
                                by_cases hZ : Z
                                all_goals
                                  simp (maxSteps := 4000000) [List.getElem?_cons_zero, List.getElem?_cons_succ, -getElem?_pos, hz3, hZ, hg0, hgset, hset2, hlt, one_most, hmost, wq]
                                  refine ⟨r + 1, (g0 :: gr) ++ [m.1], u, _, ⟨by omega, by omega, by rw [e1, htk1]; exact hlo, hC2, by simp at hgl ⊢; omega, by omega⟩, by omega, rfl, ?_⟩
                                  rw [hU]; simp [gd]
                      · have hdn : ms.drop (q - (j + 1)) = [] := List.drop_of_length_le (by omega)
                        rw [hdn, loopN_nil] at hlo
                        rw [hlo] at hR0
                        dsimp only at hR0
                        have hg0 := hC.1
                        have hlow := hC.low
                        have htkS := hC.2
                        cases g with
                        | nil =>
                          rw [if_pos rfl] at hR0
                          simp only [gd] at hg0
                          cases u with
                          | nil => simp only [gd] at hg0; simp (maxSteps := 4000000) [List.getElem?_cons_zero, List.getElem?_cons_succ, -getElem?_pos, hqc, hg0, hR0, openedAV, need_of hlow, htkS, Tryz.results17]
                          | cons u0 ur => simp only [gd] at hg0; simp (maxSteps := 4000000) [List.getElem?_cons_zero, List.getElem?_cons_succ, -getElem?_pos, hqc, hg0, hR0, openedAV, need_of hlow, htkS, Tryz.results17]
                        | cons g0 gr =>
                          rw [if_neg (by simp)] at hR0
                          simp only [gd] at hg0
                          have hgz : ¬ ((gr.length : Int) + 1 = 0) := by omega
                          cases u with
                          | nil => simp only [gd] at hg0; simp (maxSteps := 4000000) [List.getElem?_cons_zero, List.getElem?_cons_succ, -getElem?_pos, hqc, hg0, hgz, hR0, openedAV, need_of hlow, htkS, Tryz.results17]
                          | cons u0 ur => simp only [gd] at hg0; simp (maxSteps := 4000000) [List.getElem?_cons_zero, List.getElem?_cons_succ, -getElem?_pos, hqc, hg0, hgz, hR0, openedAV, need_of hlow, htkS, Tryz.results17]
              · have hR : openN s (l.map hK) = (([], [], []), 15) := by rw [hR0, if_pos (.inr (.inr (by simpa using b3)))]
                have b3' : (x0 == []) = false := by simpa using b3
                simp (maxSteps := 4000000) [List.getElem?_cons_zero, List.getElem?_cons_succ, -getElem?_pos, ck, hx0, hM0, wk, b1', b2', b3', hR, openedAV, Tryz.results17]
        · obtain ⟨j, rfl⟩ : ∃ i, j = i + 1 := ⟨j - 1, by omega⟩
          obtain ⟨x, hx⟩ : ∃ x, L[j]? = some x := ⟨_, List.getElem?_eq_getElem (by omega)⟩
          have hM := mk j x hx
          have hp := hkm j x (by omega) hx
          rw [hp] at hM
          have w1 : IntKind.i64.wrap (j : Int) = (j : Int) := wrap64 (by omega)
          have c0 : (0 : Int) < (j : Int) + 1 := by omega
          simp (maxSteps := 4000000) [List.getElem?_cons_zero, List.getElem?_cons_succ, -getElem?_pos, c0, hx, hM, w1]
          exact ⟨by omega, by omega⟩
    · have hd' : decide ([10] <:+ s) = false := decide_eq_false hd
      rw [hd'] at hE
      have hR : openN s (l.map hK) = (([], [], []), 15) := by unfold openN cutP; rw [if_neg h1, cutN_no _ _ hd]
      simp (maxSteps := 4000000) [List.getElem?_cons_zero, List.getElem?_cons_succ, h1, hE, hR, openedAV, Tryz.results17]
end Go.Proofs.Tryz.Ai
end
section
/- NoteOpens: the evaluation. -/
namespace Go.Proofs.Tryz.Ai
open Go Go.AI Go.Proofs Go.B64
set_option maxHeartbeats 4000000
set_option maxRecDepth 4000
set_option linter.unusedVariables false

theorem same_eq (t : List UInt8) (g u : List (List UInt8)) (hg : g.length ≤ 2 ^ 30) (hu : u.length ≤ 2 ^ 30) (σ : List (List AV)) : ev 23 [.agg [.str t, .sl .sh (g.map .str), .sl .sh (u.map .str)], .agg [.str t, .sl .sh (g.map .str), .sl .sh (u.map .str)]] σ = some (.bool true, σ) := by
  have h1 := SameTexts_eq g g (by omega)
  have h2 := SameTexts_eq u u (by omega)
  simp only [beq_self_eq_true] at h1 h2
  refine EV_post rfl Tryz.func23 rfl (by simp [Tryz.ntmps23]) (by kernel_rfl) (by kernel_rfl) ?_
  simp (maxSteps := 4000000) [List.getElem?_cons_zero, List.getElem?_cons_succ, h1, h2, Tryz.results23]
theorem opensLaw0 (s : List UInt8) (l : List (List UInt8 × List UInt8)) (hs : s.length ≤ 2 ^ 29) (hl : l.length ≤ 2 ^ 29) (h : ∀ k ∈ l, k.1.length ≤ 2 ^ 20 ∧ k.2.length ≤ 2 ^ 20) (σ : List (List AV)) : ev 5 [.str s, .sl .sh (l.map rkeyF)] σ = some (.bool true, σ) := by
  have hF := first_eq
  obtain ⟨b, hfew, hb⟩ := few_eq l (by omega) (fun x hx => by have := h x hx; omega) σ
  have hKe := Keys_eq l (by omega) h σ
  obtain ⟨K, hK⟩ : ∃ K, (keysG l).map hK = K := ⟨_, rfl⟩
  have hGl : (keysG l).length ≤ 2 ^ 29 := Nat.le_trans (List.length_filter_le ..) hl
  have hKl : K.length ≤ 2 ^ 29 := by rw [← hK, List.length_map]; exact hGl
  have hG : ∀ k ∈ keysG l, k.1.length ≤ 2 ^ 20 ∧ k.2.length ≤ 2 ^ 20 := fun k hk => h k (List.mem_filter.1 hk).1
  have hk : ∀ k ∈ K, k.1.length ≤ 2 ^ 20 ∧ k.2.length ≤ 2 ^ 20 := by
    intro k hk
    rw [← hK] at hk
    obtain ⟨x, hx, rfl⟩ := List.mem_map.1 hk
    exact ⟨(hG x hx).1, by simp [Ai.hK, sha256_len]⟩
  have hKm : ((keysG l).map fun k => keyF (Ai.hK k)) = K.map keyF := by rw [← hK, List.map_map]; rfl
  rw [hKm] at hKe
  have hOp := Open_eq s K hs (by omega) hk σ
  have hRo := rOpen_eq s (keysG l) hs (by omega) hG σ
  rw [hK] at hRo
  have hN : ∀ n σ, ev 13 [.int .i64 n] σ = some (.int .i64 n, σ) := fun n σ => Num_eq n σ
  obtain ⟨R, hR⟩ : ∃ R, (keysG l).map rkeyF = R := ⟨_, rfl⟩
  rw [hR] at hKe hRo
  refine EV_post rfl Tryz.func5 rfl (by simp [Tryz.ntmps5]) (by kernel_rfl) (by kernel_rfl) ?_
  cases b with
  | false =>
    simp (maxSteps := 4000000) [List.getElem?_cons_zero, List.getElem?_cons_succ, hF, hfew, Tryz.results5]
  | true =>
    by_cases h8 : 8000 < s.length
    · simp (maxSteps := 4000000) [List.getElem?_cons_zero, List.getElem?_cons_succ, hF, hfew, h8, Tryz.results5]
    · rcases openN_cases s K with ⟨e, he, hq⟩ | ⟨t, g, u, hq, hg, hp, hn, hgu⟩
      · rw [hq] at hOp hRo
        simp only [openedAV] at hOp hRo
        have hS := same_eq [] [] [] (by simp) (by simp)
        simp only [List.map_nil] at hS hOp hRo
        simp (maxSteps := 4000000) [List.getElem?_cons_zero, List.getElem?_cons_succ, hF, hfew, h8, hKe, hOp, hRo, hN, hS, Tryz.results5]
      · rw [hq] at hOp hRo
        simp only [openedAV] at hOp hRo
        have hS := same_eq t g u (by omega) (by omega)
        simp (maxSteps := 4000000) [List.getElem?_cons_zero, List.getElem?_cons_succ, hF, hfew, h8, hKe, hOp, hRo, hN, hS, Tryz.results5]
theorem opensLaw_eq (s : List UInt8) (l : List (List UInt8 × List UInt8)) (hs : s.length ≤ 1048576) (h : l.length ≤ 1048576 ∧ ∀ m ∈ l, m.1.length ≤ 1048576 ∧ m.2.length ≤ 1048576) (σ : List (List AV)) : ev 5 [.str s, .sl .sh (l.map rkeyF)] σ = some (.bool true, σ) :=
  opensLaw0 s l (by omega) (by omega) (fun k hk => by have := h.2 k hk; exact ⟨by omega, by omega⟩) σ
end Go.Proofs.Tryz.Ai
end
section
/- The bulk of what came in. -/
namespace Go.Proofs.YtkafjfkkangooaaGreatDoor
open Go Go.AI
set_option linter.unusedVariables false
section
variable {H : Type}
theorem bulk_pos (d : DataW H) : 1 ≤ Rows.uptoBulk d := by
  cases d with
  | lit l => cases l <;> simp [Rows.uptoBulk]
  | _ => simp [Rows.uptoBulk]
theorem bulk_all (ds : List (DataW H)) : ds.length ≤ Rows.uptoBulkAll ds ∧ ∀ d ∈ ds, Rows.uptoBulk d ≤ Rows.uptoBulkAll ds := by
  induction ds with
  | nil => simp
  | cons d r ih =>
    have := bulk_pos d
    simp only [Rows.uptoBulkAll, List.length_cons, List.mem_cons]
    refine ⟨by omega, ?_⟩
    rintro x (rfl | hx)
    · omega
    · have := ih.2 x hx; omega
theorem small_str {s : List UInt8} {d : DataW H} (h : d = .lit (.string s) ∧ s.length ≤ maxLen) : s.length ≤ Rows.uptoBulk d := by
  rw [h.1]; simp [Rows.uptoBulk]
theorem slq_small {α : Type} {Q : α → DataW H → Prop} {f : α → Nat} {l : List α} {d : DataW H} (h : slQ Q l d) (hf : ∀ a x, Q a x → f a ≤ Rows.uptoBulk x) : l.length ≤ Rows.uptoBulk d ∧ ∀ a ∈ l, f a ≤ Rows.uptoBulk d := by
  rcases h with ⟨rfl, rfl⟩ | ⟨ds, rest, rfl, hl, _, hq⟩
  · simp
  · simp only [Rows.uptoBulk]
    have := bulk_all ds
    refine ⟨by omega, fun a ha => ?_⟩
    obtain ⟨i, hi⟩ := List.mem_iff_getElem?.1 ha
    have hlt := (List.getElem?_eq_some_iff.1 hi).1
    obtain ⟨x, hx⟩ : ∃ x, ds[i]? = some x := ⟨_, List.getElem?_eq_getElem (by omega)⟩
    have h1 := hf a x (hq i a x hi hx)
    have h2 := this.2 x (List.mem_of_getElem? hx)
    omega
theorem small_mod {m : List UInt8 × List UInt8} {d : DataW H} (h : st2Q (fun s d => d = .lit (.string s) ∧ s.length ≤ maxLen) (fun s d => d = .lit (.string s) ∧ s.length ≤ maxLen) m d) : m.1.length + m.2.length ≤ Rows.uptoBulk d := by
  obtain ⟨d0, d1, rfl, q0, q1⟩ := h
  have := small_str q0
  have := small_str q1
  simp only [Rows.uptoBulk, Rows.uptoBulkAll]; omega
theorem small_pair {m : List UInt8 × List UInt8} {d : DataW H} (h : st2Q (fun s d => d = .lit (.string s) ∧ s.length ≤ maxLen) (slQ fun (n : UInt8) d => d = .lit (.int .u8 n.toNat)) m d) : m.1.length + m.2.length ≤ Rows.uptoBulk d := by
  obtain ⟨d0, d1, rfl, q0, q1⟩ := h
  have := small_str q0
  have := (slq_small (f := fun _ => 0) q1 (fun a x h => Nat.zero_le _)).1
  simp only [Rows.uptoBulk, Rows.uptoBulkAll]; omega
end
end Go.Proofs.YtkafjfkkangooaaGreatDoor
end
section
/- The frame of NoteOpens: from the evaluation to the given statement. -/
namespace Go.Proofs.YtkafjfkkangooaaGreatDoor.noteOpens
open Go Go.AI Go.ChangeShapes Go.WideShapes Go.ChangeAt Go.RowKit
set_option linter.unusedVariables false

theorem own : ownKnob Tryz.prog.godebug = none := by kernel_rfl
theorem mixed : Tryz.prog.follows .mixedOrders = true := by kernel_rfl
theorem laidOut : laidOutB Tryz.prog = true := by kernel_rfl

theorem walk (a0 : List UInt8) (a1 : List (List UInt8 × List UInt8)) (v0 v1 : Value) (W : World) (hl : Go.Proofs.Tryz.Ai.LaidAll W) (r0 : Rep W.heap.size gh0 W v0 (.str a0)) (r1 : Rep W.heap.size gh0 W v1 (.sl .sh (a1.map fun m => .agg [.str m.1, .sl .sh (m.2.map .u8)])))
    (he : Go.Proofs.Tryz.Ai.ev 5 [.str a0, .sl .sh (a1.map fun m => .agg [.str m.1, .sl .sh (m.2.map .u8)])] [] = some (.bool true, [])) :
    Calls Tryz.prog 5 #[v0, v1] W fun e w' => e = .returned (.bool true) ∧ Below W.heap.size W w' :=
  Go.AI.top (s' := []) mixed rfl (Go.Proofs.Tryz.Ai.T_ok hl) (by rfl)
    (fun j c h => by
      match j, h with
      | 0, h => simp at h; subst h; exact ⟨r0, rfl, rfl⟩
      | 1, h => simp at h; subst h; exact ⟨r1, rfl, rfl⟩
      | j + 2, h => simp at h)
    he

/-- the table of powers, as the row lays it -/
theorem laid_of {W : World} (hL : laidMet Tryz.prog Rows.noteOpensUptoRow.laid W) : Go.Proofs.Tryz.Ai.Laid W :=
  tabIs_of_mem (g := 3) (t := 182) (e := 133) (n := 20) (by
    have : ("internal/strconv.uint64pow10", Rows.laid_internal_strconv_uint64pow10) ∈ Rows.noteOpensUptoRow.laid := by simp [Rows.noteOpensUptoRow]
    have e : (Rows.laid_internal_strconv_uint64pow10 : DataW Unit) = Lib.tabData .u64 Lib.pow10Tab := by kernel_rfl
    rw [e] at this; exact this) (by kernel_rfl) (by kernel_rfl) Tryz.underlying182 Tryz.underlying133 (by kernel_rfl) (by kernel_rfl) hL

/-- what a row lays, and what each world has -/
theorem all_of {W : World} (hL : laidMet Tryz.prog Rows.noteOpensUptoRow.laid W) (hsh : W.ShapedOpen Tryz.prog) : Go.Proofs.Tryz.Ai.LaidAll W where
  tab := laid_of hL
  max := Go.Proofs.Tryz.Ai.maxLen_of hsh

theorem readable : ∀ t ∈ Tryz.f5.params.toList, Tryz.prog.readableRec t = true ∧ t < Tryz.prog.types.size := by
  rw [Tryz.params5]
  intro t ht
  simp only [List.mem_cons, List.mem_nil_iff, or_false] at ht
  rcases ht with rfl | rfl <;> exact ⟨by kernel_rfl, of_decide_eq_true (by kernel_rfl)⟩

set_option maxRecDepth 100000 in
theorem contract (H : Type) (enc : TypeId × Value → H) (W : World) (base : Nat) (args : Array Value) (ds gs : List (DataW H)) (before : List MemPlace)
    (hval : ∀ (j : Nat) t v, Tryz.f5.params[j]? = some t → args[j]? = some v → Value.okWide Tryz.prog W .any base t v)
    (hW : DataW.Whole enc Tryz.prog Tryz.f5.params.toList Rows.noteOpensSpec.vars false W args.toList ds gs before) (hcond : ∀ k, (Rows.OpenSpec.upto Rows.noteOpensSpec).cond = some k → k H (ds ++ gs) = true) (hl : Go.Proofs.Tryz.Ai.LaidAll W) :
    Calls Tryz.prog 5 args W fun e W' => ∃ v, e = .returned v ∧ Rows.noteOpensSpec.post enc Tryz.prog Tryz.f5 false true false false W args v W' := by
  have hW' := hW
  obtain ⟨p, q, hA0, hV, rfl, hfz, hnd⟩ := hW
  have hA : DataW.TrodAll enc Tryz.prog W 0 (fun _ => true) true Tryz.f5.params.toList args.toList ds p := hA0
  have hAk := hA
  rw [Tryz.params5] at hA hval
  obtain ⟨v0, vs0, d0, ds0, p0, q0, hargs0, rfl, rfl, h0, r0⟩ := trodAll_cons hA
  obtain ⟨v1, vs1, d1, ds1, p1, q1, hargs1, rfl, rfl, h1, r1⟩ := trodAll_cons r0
  obtain ⟨e1, e2, e3⟩ := trodAll_nil r1
  obtain rfl : args = #[v0, v1] := by cases args; simp_all
  subst e2 e3
  obtain ⟨rfl, rfl⟩ := trodVars_none hV
  obtain ⟨a0, Q0, R0, _⟩ := (Reads.str Tryz.underlying9 (by kernel_rfl)).arg1 (enc := enc) (W := W) (fun _ => rfl) (by kernel_rfl) (hval 0 9 v0 rfl rfl) h0
  obtain ⟨a1, Q1, R1, _⟩ := (Reads.slice (Reads.struct2 (Reads.str Tryz.underlying9 (by kernel_rfl)) (Reads.slice (Reads.u8 Tryz.underlying5 (by kernel_rfl)) Tryz.underlying43 (by kernel_rfl)) Tryz.underlying72 (by rfl) (by kernel_rfl) (by kernel_rfl)) Tryz.underlying22 (by kernel_rfl)).arg1 (enc := enc) (W := W) (fun _ => rfl) (by kernel_rfl) (hval 1 22 v1 rfl rfl) h1
  have hb : Rows.uptoBulkAll ([d0, d1] ++ []) ≤ 1048576 := of_decide_eq_true (hcond _ rfl)
  simp only [List.append_nil, Rows.uptoBulkAll] at hb
  have s0 : a0.length ≤ 1048576 := by have := small_str Q0; omega
  have s1 : a1.length ≤ 1048576 ∧ ∀ m ∈ a1, m.1.length ≤ 1048576 ∧ m.2.length ≤ 1048576 := by have := slq_small (f := fun m => m.1.length + m.2.length) Q1 (fun a x h => small_pair h); exact ⟨by omega, fun s hs => by have := this.2 s hs; omega⟩
  have hlt : ∀ x ∈ (p0 ++ p1 : List MemPlace), True := fun _ _ => trivial
  refine (walk a0 a1 v0 v1 W hl R0 R1 (by have := Go.Proofs.Tryz.Ai.opensLaw_eq a0 a1 s0 s1 []; exact this)).mono fun e W' ⟨he, bel⟩ => ?_
  subst he
  exact ⟨_, rfl, _, _, _, [], _, [], hW', trodAll_mk1 (shut_bool Tryz.underlying4 _), trodAll_keep laidOut bel readable hAk (fun x hx => by simpa using hW'.lt x (by simpa using hx)), rfl, bel.frame _, fun h => by cases h⟩

noncomputable def laidWorld (os : Os) : World := World.laidAll Tryz.prog os Rows.noteOpensUptoRow.laid
theorem laid_met (os : Os) : laidMet Tryz.prog Rows.noteOpensUptoRow.laid ((laidWorld os).forCall (fun _ _ => 0) ⟨#[], #[.string ⟨#[]⟩, .slice none 0 0], []⟩).memory :=
  laidMet_laidAll _ (by kernel_rfl) (by kernel_rfl)
theorem reads (os : Os) {H : Type} (enc : TypeId × Value → H) : ∃ places, DataW.whole enc Tryz.prog ((laidWorld os).forCall (fun _ _ => 0) ⟨#[], #[.string ⟨#[]⟩, .slice none 0 0], []⟩).memory Tryz.f5.params.toList Rows.noteOpensSpec.vars false (#[.string ⟨#[]⟩, .slice none 0 0] : Array Value).toList 8 = some ([.lit (.string []), .nil], [], places) :=
  ⟨[], by kernel_rfl⟩
theorem witness (os : Os) {H : Type} (enc : TypeId × Value → H) : ∃ (w : World) (tape : Tape) (i : Input), w.os = os ∧ (w.forCall tape i).Shaped Tryz.checked.prog ∧ i.vars = [] ∧ Input.okWide Tryz.checked.prog (w.forCall tape i) .any w.heap.size 5 i ∧
    (Rows.OpenSpec.upto Rows.noteOpensSpec).preRow enc Tryz.checked.prog Tryz.f5 Rows.noteOpensUptoRow.domain false Rows.noteOpensUptoRow.laid (w.forCall tape i).memory i.args ∧ ({} : Assume).holds Tryz.checked.prog (lone (Frame.enter Tryz.checked.prog 5 i.args .normal) [] (w.forCall tape i)) := by
  obtain ⟨places, hx⟩ := reads os enc
  have hok : Input.okWideB Tryz.checked.prog ((laidWorld os).forCall (fun _ _ => 0) ⟨#[], #[.string ⟨#[]⟩, .slice none 0 0], []⟩) 5 ⟨#[], #[.string ⟨#[]⟩, .slice none 0 0], []⟩ = true := by kernel_rfl
  exact ⟨laidWorld os, fun _ _ => 0, ⟨#[], #[.string ⟨#[]⟩, .slice none 0 0], []⟩, World.laidAll_os _ _ _, World.shaped_of_ZipB (by kernel_rfl) (by kernel_rfl), (Input.okWide_of_okWideB (base := 0) hok).1, (Input.okWide_of_okWideB hok).2,
    OpenSpec.preRow_of_cond 8 hx (by kernel_rfl) (fun k hk => by have e : k = Rows.uptoSmall := (Option.some.inj (show some Rows.uptoSmall = some k from hk)).symm; rw [e]; simp [Rows.uptoSmall, Rows.uptoBulkAll, Rows.uptoBulk]) (by kernel_rfl) (laid_met os), by
    simp only [Assume.holds]
    exact ⟨by simp, by simp, fun _ => Modest.zero, by simp, by simp⟩⟩

set_option maxRecDepth 100000 in
theorem lifted (os : Os) (started : os.Started) (H : Type) (enc : TypeId × Value → H) (F : Stop.Interp) :
    ReturnsInHanded {} Tryz.checked os 5 .any ((Rows.OpenSpec.upto Rows.noteOpensSpec).preRow enc Tryz.prog Tryz.f5 Rows.noteOpensUptoRow.domain false Rows.noteOpensUptoRow.laid) (((Rows.OpenSpec.upto Rows.noteOpensSpec).at F).post enc Tryz.prog Tryz.f5 false true false false) := by
  refine returnsInHanded_of_row (C := Tryz.checked) (s := (Rows.OpenSpec.upto Rows.noteOpensSpec)) own started (by kernel_rfl) Tryz.func5 (witness os enc) ?_
  intro W base args ds gs before hval hW _ hcond _ hL hsh _
  exact contract H enc W base args ds gs before hval hW hcond (all_of (by rw [← MakeChecks.laidMetH_plain _ _ _ (by kernel_rfl)]; exact hL) hsh)

theorem said : Rows.NoteOpensUptoSaid :=
  OpenClaim.holds_of_cond 5 Tryz.f5 rfl rfl rfl rfl rfl rfl rfl ⟨rfl, rfl, rfl, rfl, rfl⟩ rfl rfl rfl rfl rfl (by kernel_rfl) Tryz.func5 (by kernel_rfl)
    (of_decide_eq_true (by kernel_rfl)) (by unfold Func.isWrapper; first | (rw [if_pos (by decide +kernel)]; kernel_rfl) | (rw [if_neg (by decide +kernel)]; exact ⟨rfl, rfl⟩))
    (fun os started H enc _ F => by rw [OpenClaim.pre_eq_preRow]; exact lifted os started H enc F)

theorem plain (f : FuncId) (fn : Func) (hf : Tryz.pinned.checked.prog.funcNamed "mews/mewslaw8.NoteOpens" = some f) (hfn : Tryz.pinned.checked.prog.funcs[f]? = some fn) :
    true = Tryz.pinned.checked.prog.looks [] ∧ ∀ (j : Nat) t, fn.params[j]? = some t → Tryz.pinned.checked.prog.wantsStandIn t = false := by
  obtain rfl : f = 5 := Option.some.inj ((show Tryz.prog.funcNamed "mews/mewslaw8.NoteOpens" = some 5 by kernel_rfl).symm.trans hf) |>.symm
  obtain rfl : fn = Tryz.f5 := (Option.some.inj (Tryz.func5.symm.trans hfn)).symm
  refine ⟨by kernel_rfl, fun j t ht => ?_⟩
  have hm : t ∈ Tryz.f5.params.toList := Array.mem_toList_iff.2 (Array.mem_of_getElem? ht)
  rw [Tryz.params5] at hm
  simp only [List.mem_cons, List.mem_nil_iff, or_false] at hm
  rcases hm with rfl | rfl
  · exact (show Tryz.prog.wantsStandIn 9 = false by kernel_rfl)
  · exact (show Tryz.prog.wantsStandIn 22 = false by kernel_rfl)

/-- the card -/
theorem card : Rows.NoteOpensUptoCardSaid :=
  Claim7.holds_tied_plain_at .later [] _ _ _ _ said (fun _ h => by cases h) (by kernel_rfl) (fun _ h => by cases h) noteOpensUpto_row_tie rfl ⟨rfl, rfl⟩ (by kernel_rfl) rfl plain (by kernel_rfl)
end Go.Proofs.YtkafjfkkangooaaGreatDoor.noteOpens
end
