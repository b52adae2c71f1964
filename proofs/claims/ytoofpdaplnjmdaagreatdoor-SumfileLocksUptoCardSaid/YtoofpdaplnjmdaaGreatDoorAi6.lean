/- Part 6 of a proof: a Go function is evaluated on abstract values (texts M13 .. S14); no conditions beyond those of each theorem. -/
import Derived.Test.YtoofpdaplnjmdaaGreatDoorAi5
set_option linter.all false
set_option linter.unusedVariables false
set_option linter.unusedSimpArgs false
set_option linter.unnecessarySimpa false
section
/- mewsref3.Parts. -/
namespace Go.Proofs.Tryz.Ai
open Go Go.AI Go.Proofs
set_option maxHeartbeats 4000000
set_option linter.unusedVariables false

def rpartsA : Option Ver → AV
  | some v => .tup [.int .i64 v.ma, .int .i64 v.mi, .int .i64 v.pa, .str v.pre, .bool true]
  | none => .tup [.int .i64 0, .int .i64 0, .int .i64 0, .str [], .bool false]
theorem rParts_eq (s : List UInt8) (hl : s.length ≤ 2 ^ 30) (σ) : ev 175 [.str s] σ = some (rpartsA (readB s), σ) := by
  refine EV_post rfl Tryz.func175 rfl (by simp [Tryz.ntmps175]) (by kernel_rfl) (by kernel_rfl) ?_
  by_cases h60 : 60 < s.length
  · have hr : readB s = none := by simp [readB, h60]
    simp (maxSteps := 4000000) [List.getElem?_cons_zero, List.getElem?_cons_succ, h60, hr, rpartsA, Tryz.results175]
  · cases s with
    | nil => simp (maxSteps := 4000000) [List.getElem?_cons_zero, List.getElem?_cons_succ, readB, rpartsA, Tryz.results175]
    | cons c r =>
      have h61 : ¬ (60 : Int) < (r.length : Int) + 1 := by simp at h60; omega
      have hrl : r.length < 60 := by simp at h60; omega
      by_cases hc : c = 118
      · subst hc
        have v1 : IntKind.i64.wrap ((r.length : Int) + 1) = (r.length : Int) + 1 := wrap64 (by omega)
        have hr : readB (118 :: r) = match coreOf (cutB 45 r).1 with
            | none => none
            | some (x, y, z) => if (cutB 45 r).2.2 && !idsB (cutB 45 r).2.1 then none else some ⟨x, y, z, (cutB 45 r).2.1⟩ := by
          unfold readB; rw [if_neg h60]; rfl
        simp (maxSteps := 4000000) [List.getElem?_cons_zero, List.getElem?_cons_succ, h61, v1]
        obtain ⟨⟨k, p, b⟩, hk⟩ : ∃ x, cutB 45 r = x := ⟨_, rfl⟩
        refine Post_mono (K1 := fun e st => e = .exit 0 ∧ ∃ (i : Int) (tl : List (Nat × AV)), (tl = [] ∨ tl = [(38, .bool false)]) ∧ st = ⟨[(7, .str k), (8, .str p), (9, .bool b), (10, .int .i64 i)] ++ tl, [], σ⟩) ?_ ?_
        · refine Post_loop (I := fun i : Nat => ⟨[(7, .str r), (8, .str []), (9, .bool false), (10, .int .i64 i)], [], σ⟩) (Pr := fun i => i ≤ r.length ∧ 45 ∉ r.take i) (μ := fun i => r.length - i) (a := 0) (by simp) (by simp) ?_
          rintro i ⟨hi, hn⟩
          by_cases hc : i < r.length
          · obtain ⟨x, hcx⟩ : ∃ x, r[i] = x := ⟨_, rfl⟩
            have hx : r[i]? = some x := by rw [← hcx]; exact List.getElem?_eq_getElem hc
            have w1 : IntKind.i64.wrap ((i : Int) + 1) = (i : Int) + 1 := wrap64 (by omega)
            by_cases hq : x = 45
            · have hix : ix 45 r = some i := by
                have h1 : r = r.take i ++ 45 :: r.drop (i + 1) := by rw [← hq, ← hcx, ← List.drop_eq_getElem_cons hc, List.take_append_drop]
                have h2 := ix_app (y := r.drop (i + 1)) hn
                rw [← h1] at h2
                rw [h2]; simp; omega
              have hcb : cutB 45 r = (r.take i, r.drop (i + 1), true) := by simp [cutB, hix]
              rw [hk] at hcb
              simp only [Prod.mk.injEq] at hcb
              obtain ⟨rfl, rfl, rfl⟩ := hcb
              have q1 : i + 1 ≤ r.length := by omega
              have q2 : i ≤ r.length := by omega
              subst hq
              simp (maxSteps := 4000000) [List.getElem?_cons_zero, List.getElem?_cons_succ, -getElem?_pos, hc, hx, w1, q1, q2]
            · have hn2 : 45 ∉ r.take (i + 1) := by
                rw [List.take_succ_eq_append_getElem hc, hcx]; simp [hn]; exact fun e => hq e.symm
              simp (maxSteps := 4000000) [List.getElem?_cons_zero, List.getElem?_cons_succ, -getElem?_pos, hc, hx, hq, w1]
              exact ⟨i + 1, ⟨by omega, hn2⟩, by omega, by simp⟩
          · have hi' : i = r.length := by omega
            subst hi'
            rw [List.take_length] at hn
            have hix : ix 45 r = none := ix_none.2 hn
            have hcb : cutB 45 r = (r, [], false) := by simp [cutB, hix]
            rw [hk] at hcb
            simp only [Prod.mk.injEq] at hcb
            obtain ⟨rfl, rfl, rfl⟩ := hcb
            simp (maxSteps := 4000000) [List.getElem?_cons_zero, List.getElem?_cons_succ, hc]
        · rintro e st ⟨rfl, i, tl, htl, rfl⟩
          have hcl := cutB_le 45 r
          rw [hk] at hcl hr
          simp only at hcl hr
          have hC : ∀ σ, ev 37 [.str k, .int .u8 46] σ = some (.sl (.ex 9 1) ((splitB 46 k).map .str), σ) := Cut_eq k (by omega) 46
          have hP : ∀ σ, ev 37 [.str p, .int .u8 46] σ = some (.sl (.ex 9 1) ((splitB 46 p).map .str), σ) := Cut_eq p (by omega) 46
          by_cases h3 : (splitB 46 k).length = 3
          · obtain ⟨x, y, z, hxyz⟩ : ∃ x y z, splitB 46 k = [x, y, z] := by
              match hq : splitB 46 k, h3 with
              | [x, y, z], _ => exact ⟨x, y, z, rfl⟩
            have hmem : ∀ w ∈ splitB 46 k, w.length ≤ 2 ^ 30 := fun w hw => by have := splitB_le hw; omega
            rw [hxyz] at hC hmem
            have nx := rnumber_eq x (by have := hmem x (by simp); omega)
            have ny := rnumber_eq y (by have := hmem y (by simp); omega)
            have nz := rnumber_eq z (by have := hmem z (by simp); omega)
            have hco : coreOf k = match numB x, numB y, numB z with
                | some x, some y, some z => some (x, y, z)
                | _, _, _ => none := by simp only [coreOf, hxyz]; cases numB x <;> cases numB y <;> cases numB z <;> rfl
            rw [hco] at hr
            simp only [List.map_cons, List.map_nil] at hC
            by_cases ex : numOk x = true
            · by_cases ey : numOk y = true
              · by_cases ez : numOk z = true
                · have okA : ∀ s, numOk s = true → s.all isD = true ∧ plainB s = true ∧ s.length ≤ 9 := fun s h => by
                    simp only [numOk, allB, Bool.and_eq_true, decide_eq_true_eq] at h; exact ⟨h.1.1.1, h.1.2, h.2⟩
                  have ax := rAtoi_eq x (okA x ex).1 (okA x ex).2.1 (okA x ex).2.2
                  have ay := rAtoi_eq y (okA y ey).1 (okA y ey).2.1 (okA y ey).2.2
                  have az := rAtoi_eq z (okA z ez).1 (okA z ez).2.1 (okA z ez).2.2
                  have bx : numB x = some (valB x) := by simp [numB, ex]
                  have by' : numB y = some (valB y) := by simp [numB, ey]
                  have bz : numB z = some (valB z) := by simp [numB, ez]
                  rw [bx, by', bz] at hr
                  simp only at hr
                  cases b with
                  | false =>
                    simp only [Bool.false_and, Bool.false_eq_true, if_false] at hr
                    rcases htl with rfl | rfl <;> simp (maxSteps := 4000000) [List.getElem?_cons_zero, List.getElem?_cons_succ, hC, nx, ny, nz, ex, ey, ez, ax, ay, az, hr, rpartsA, Tryz.results175]
                  | true =>
                    obtain ⟨L, hL⟩ : ∃ L, splitB 46 p = L := ⟨_, rfl⟩
                    have hm : ∀ x ∈ L, x.length ≤ 2 ^ 30 := fun x hx => by have := splitB_le (hL ▸ hx); omega
                    have hn : L.length ≤ 2 ^ 31 := by rw [← hL]; have := splitB_many 46 p; omega
                    have hAll : idsB p = L.all idB := by unfold idsB; rw [hL]
                    rw [hL] at hP
                    rcases htl with rfl | rfl
                    all_goals
                      simp (maxSteps := 4000000) [List.getElem?_cons_zero, List.getElem?_cons_succ, hC, hP, nx, ny, nz, ex, ey, ez]
                      refine Post_loop (I := fun i : Nat => ⟨[(8, .str p), (11, .sl (.ex 9 1) [.str x, .str y, .str z]), (12, .sl (.ex 9 1) (L.map .str)), (13, .int .i64 i)], [], σ⟩) (Pr := fun i => i ≤ L.length ∧ ∀ x ∈ L.take i, idB x = true) (μ := fun i => L.length - i) (a := 0) (by simp) (by simp) ?_
                      rintro i ⟨hi, ha⟩
                      by_cases hc : i < L.length
                      · obtain ⟨w, hw⟩ : ∃ w, L[i] = w := ⟨_, rfl⟩
                        have hw2 : L[i]? = some w := by rw [← hw]; exact List.getElem?_eq_getElem hc
                        have hI := ridentifier_eq w (by have := hm w (hw ▸ List.getElem_mem hc); omega)
                        have w6 : IntKind.i64.wrap ((i : Int) + 1) = (i : Int) + 1 := wrap64 (by omega)
                        by_cases hq : idB w = true
                        · rw [hq] at hI
                          simp (maxSteps := 4000000) [List.getElem?_cons_zero, List.getElem?_cons_succ, -getElem?_pos, hc, hw2, hI, w6]
                          exact ⟨i + 1, ⟨by omega, take_all hc ha (by rw [hw]; exact hq)⟩, by omega, by simp⟩
                        · have hf : idsB p = false := by rw [hAll, Bool.eq_false_iff]; intro h; exact hq (List.all_eq_true.1 h _ (hw ▸ List.getElem_mem hc))
                          have hq : idB w = false := by simpa using hq
                          rw [hq] at hI
                          rw [hf] at hr
                          simp only [Bool.not_false, Bool.and_self, if_true] at hr
                          simp (maxSteps := 4000000) [List.getElem?_cons_zero, List.getElem?_cons_succ, -getElem?_pos, hc, hw2, hI, hr, rpartsA, Tryz.results175]
                      · have hi' : i = L.length := by omega
                        subst hi'
                        rw [List.take_length] at ha
                        have ht : idsB p = true := by rw [hAll]; exact List.all_eq_true.2 ha
                        rw [ht] at hr
                        simp only [Bool.not_true, Bool.and_false, Bool.false_eq_true, if_false] at hr
                        simp (maxSteps := 4000000) [List.getElem?_cons_zero, List.getElem?_cons_succ, hc, ax, ay, az, hr, rpartsA, Tryz.results175]
                · have bz : numB z = none := by simp [numB, ez]
                  have hr2 : readB (118 :: r) = none := by rw [hr, bz]; cases numB x <;> cases numB y <;> rfl
                  rcases htl with rfl | rfl <;> simp (maxSteps := 4000000) [List.getElem?_cons_zero, List.getElem?_cons_succ, hC, nx, ny, nz, ex, ey, ez, hr2, rpartsA, Tryz.results175]
              · have bz : numB y = none := by simp [numB, ey]
                have hr2 : readB (118 :: r) = none := by rw [hr, bz]; cases numB x <;> rfl
                rcases htl with rfl | rfl <;> simp (maxSteps := 4000000) [List.getElem?_cons_zero, List.getElem?_cons_succ, hC, nx, ny, nz, ex, ey, hr2, rpartsA, Tryz.results175]
            · have bz : numB x = none := by simp [numB, ex]
              have hr2 : readB (118 :: r) = none := by rw [hr, bz]
              rcases htl with rfl | rfl <;> simp (maxSteps := 4000000) [List.getElem?_cons_zero, List.getElem?_cons_succ, hC, nx, ny, nz, ex, hr2, rpartsA, Tryz.results175]
          · rw [coreOf_no h3] at hr
            rcases htl with rfl | rfl <;> simp (maxSteps := 4000000) [List.getElem?_cons_zero, List.getElem?_cons_succ, hC, h3, hr, rpartsA, Tryz.results175]
      · have hr : readB (c :: r) = none := by unfold readB; rw [if_neg h60]; simp [hc]
        simp (maxSteps := 4000000) [List.getElem?_cons_zero, List.getElem?_cons_succ, h61, hc, hr, rpartsA, Tryz.results175]
end Go.Proofs.Tryz.Ai
end
section
/- mod: paths. -/
namespace Go.Proofs.Tryz.Ai
open Go Go.AI Go.Proofs
set_option maxHeartbeats 2000000
set_option linter.unusedVariables false

theorem lixI_eq (c : UInt8) (l : List UInt8) : lixI c l = match lix c l with
  | some n => (n : Int)
  | none => -1 := rfl
theorem SplitMajor_eq (p : List UInt8) (hp : p.length ≤ 2 ^ 30) (σ) : ev 168 [.str p] σ = some (.tup [.str (splitMB p).1, .int .i64 (splitMB p).2], σ) := by
  have h1 := LastIndex1_eq p (by omega) 47
  refine EV_post rfl Tryz.func168 rfl (by simp [Tryz.ntmps168]) (by kernel_rfl) (by kernel_rfl) ?_
  cases hx : lix 47 p with
  | none =>
    have e1 : lixI 47 p = -1 := by simp [lixI, hx]
    have e2 : splitMB p = (p, 0) := by simp [splitMB, hx]
    simp (maxSteps := 4000000) [List.getElem?_cons_zero, List.getElem?_cons_succ, h1, e1, e2, Tryz.results168]
  | some i =>
    have e1 : lixI 47 p = i := by simp [lixI, hx]
    have hi := (lix_some hx).1
    obtain ⟨q, hq⟩ : ∃ q, p.drop (i + 1) = q := ⟨_, rfl⟩
    have hql : q.length ≤ 2 ^ 30 := by rw [← hq]; simp; omega
    have w1 : IntKind.i64.wrap ((i : Int) + 1) = (i : Int) + 1 := wrap64 (by omega)
    have w2 : i + 1 ≤ p.length := by omega
    have w3 : i ≤ p.length := by omega
    have h2 := CutPrefix_eq q [118] (by omega) (by simp)
    have e2 : splitMB p = match majB q with
        | none => (p, 0)
        | some n => (p.take i, n) := by unfold splitMB; rw [hx]; simp only [hq]; cases majB q <;> rfl
    cases q with
    | nil =>
      have h3 := number_eq [] (by simp)
      have h4 : numB [] = none := by simp [numB, numOk, allB]
      have h6 : majB [] = none := rfl
      rw [h4] at h3
      rw [h6] at e2
      simp only [List.isPrefixOf, Bool.false_eq_true, if_false] at h2
      simp only at e2
      simp (maxSteps := 4000000) [List.getElem?_cons_zero, List.getElem?_cons_succ, h1, e1, e2, hq, w1, w2, h2, h3, Tryz.results168]
    | cons c r =>
      simp only [List.length_cons] at hql
      by_cases hc : c = 118
      · subst hc
        have h5 : List.isPrefixOf [(118 : UInt8)] (118 :: r) = true := by simp [List.isPrefixOf]
        rw [h5] at h2
        simp only [if_true, List.length_cons, List.length_nil, Nat.zero_add, List.drop_succ_cons, List.drop_zero] at h2
        have h3 := number_eq r (by omega)
        have h7 : majB (118 :: r) = match numB r with
            | none => none
            | some n => if n < 2 then none else some n := rfl
        cases hn : numB r with
        | none =>
          rw [hn] at h3 h7
          rw [h7] at e2
          simp only at e2
          simp (maxSteps := 4000000) [List.getElem?_cons_zero, List.getElem?_cons_succ, h1, e1, e2, hq, w1, w2, h2, h3, Tryz.results168]
        | some n =>
          rw [hn] at h3 h7
          simp only at h7
          by_cases h6 : n < 2
          · rw [if_pos h6] at h7
            rw [h7] at e2
            simp (maxSteps := 4000000) [List.getElem?_cons_zero, List.getElem?_cons_succ, h1, e1, e2, hq, w1, w2, h2, h3, h6, Tryz.results168]
          · rw [if_neg h6] at h7
            rw [h7] at e2
            simp (maxSteps := 4000000) [List.getElem?_cons_zero, List.getElem?_cons_succ, h1, e1, e2, hq, w1, w2, w3, h2, h3, h6, Tryz.results168]
      · have h5 : List.isPrefixOf [(118 : UInt8)] (c :: r) = false := by simp [List.isPrefixOf]; exact fun e => hc e.symm
        have h7 : majB (c :: r) = none := by simp [majB, hc]
        rw [h7] at e2
        rw [h5] at h2
        simp only [Bool.false_eq_true, if_false] at h2
        have h3 := number_eq (c :: r) (by simp; omega)
        simp (maxSteps := 4000000) [List.getElem?_cons_zero, List.getElem?_cons_succ, h1, e1, e2, hq, w1, w2, h2, h3, Tryz.results168]
theorem elements_eq (p o : List UInt8) (hp : p.length ≤ 2 ^ 30) (b : Nat) (sh) (σ : List (List AV)) (hb : σ[b]? = some [.str o]) : ev 151 [.str p, .fn 184 [.gp b 0 sh]] σ = some (.bool (elemsB o p), σ) := by
  have hS := Split1_eq p hp 47
  obtain ⟨L, hL⟩ : ∃ L, splitB 47 p = L := ⟨_, rfl⟩
  have hm : ∀ x ∈ L, x.length ≤ 2 ^ 30 := fun x hx => Nat.le_trans (splitB_le (hL ▸ hx)) hp
  have hn : L.length ≤ 2 ^ 31 := by rw [← hL]; have := splitB_many 47 p; omega
  have hAll : elemsB o p = L.all (elemB o) := by unfold elemsB; rw [hL]
  rw [hL] at hS
  refine EV_post rfl Tryz.func151 rfl (by simp [Tryz.ntmps151]) (by kernel_rfl) (by kernel_rfl) ?_
  simp (maxSteps := 4000000) [List.getElem?_cons_zero, List.getElem?_cons_succ, hS]
  refine Post_loop (I := fun i : Nat => ⟨[(1, .fn 184 [.gp b 0 sh]), (8, .sl (.ex 9 1) (L.map .str)), (9, .int .i64 L.length), (10, .int .i64 i)], [], σ⟩) (Pr := fun i => i ≤ L.length ∧ ∀ x ∈ L.take i, elemB o x = true) (μ := fun i => L.length - i) (a := 0) (by simp) (by simp) ?_
  rintro i ⟨hi, ha⟩
  by_cases hc : i < L.length
  · obtain ⟨x, hx⟩ : ∃ x, L[i] = x := ⟨_, rfl⟩
    have hx2 : L[i]? = some x := by rw [← hx]; exact List.getElem?_eq_getElem hc
    have hxl := hm x (hx ▸ List.getElem_mem hc)
    have h1 := allW_eq x o (by omega) b sh σ hb
    have w6 : IntKind.i64.wrap ((i : Int) + 1) = (i : Int) + 1 := wrap64 (by omega)
    have bad : elemB o x = false → elemsB o p = false := fun e => by rw [hAll, Bool.eq_false_iff]; intro h; have := List.all_eq_true.1 h _ (hx ▸ List.getElem_mem hc); rw [e] at this; cases this
    by_cases hA : allB (wordB o) x = true
    · obtain ⟨c, r, hcr⟩ : ∃ c r, x = c :: r := by cases x with
        | nil => simp [allB] at hA
        | cons c r => exact ⟨c, r, rfl⟩
      have g0 : x[0]? = some c := by rw [hcr]; rfl
      have hlen : x.length = r.length + 1 := by rw [hcr]; simp
      obtain ⟨d, hd⟩ : ∃ d, x[r.length]? = some d := ⟨_, List.getElem?_eq_getElem (by omega)⟩
      have hlast : x.getLast? = some d := by rw [List.getLast?_eq_getElem?, hlen]; simpa using hd
      have hhead : x.head? = some c := by rw [hcr]; rfl
      have w7 : IntKind.i64.wrap ((x.length : Int) - 1) = (r.length : Int) := by rw [wrap64 (by omega)]; omega
      by_cases e1 : c = 46
      · have hf := bad (by simp [elemB, hhead, e1])
        subst e1
        simp (maxSteps := 4000000) [List.getElem?_cons_zero, List.getElem?_cons_succ, -getElem?_pos, hc, hx2, h1, hA, g0, hf, Tryz.results151]
      · by_cases e2 : d = 46
        · have hf := bad (by simp [elemB, hlast, e2])
          subst e2
          simp (maxSteps := 4000000) [List.getElem?_cons_zero, List.getElem?_cons_succ, -getElem?_pos, hc, hx2, h1, hA, g0, e1, w7, hd, hf, Tryz.results151]
        · have hq : elemB o x = true := by simp [elemB, hA, hhead, hlast, e1, e2]
          simp (maxSteps := 4000000) [List.getElem?_cons_zero, List.getElem?_cons_succ, -getElem?_pos, hc, hx2, h1, hA, g0, e1, w7, hd, e2, w6]
          exact ⟨i + 1, ⟨by omega, take_all hc ha (by rw [hx]; exact hq)⟩, by omega, by simp⟩
    · have hf := bad (by simp [elemB, hA])
      simp (maxSteps := 4000000) [List.getElem?_cons_zero, List.getElem?_cons_succ, -getElem?_pos, hc, hx2, h1, hA, hf, Tryz.results151]
  · have hi' : i = L.length := by omega
    subst hi'
    rw [List.take_length] at ha
    have ht : elemsB o p = true := by rw [hAll]; exact List.all_eq_true.2 ha
    simp (maxSteps := 4000000) [List.getElem?_cons_zero, List.getElem?_cons_succ, ht, Tryz.results151]
theorem odd_eq (c : UInt8) (σ) : ev 164 [.int .u8 c.toNat] σ = some (.bool (oddB c), σ) := by
  have h := upper_eq c
  refine EV_post rfl Tryz.func164 rfl (by simp [Tryz.ntmps164]) (by kernel_rfl) (by kernel_rfl) ?_
  by_cases d : isU c = true
  · simp (maxSteps := 4000000) [List.getElem?_cons_zero, List.getElem?_cons_succ, h, d, oddB, Tryz.results164]
  · by_cases e : c = 95
    · subst e
      have h' : ∀ σ, ev 165 [.int .u8 95] σ = some (.bool false, σ) := fun σ => upper_eq 95 σ
      simp (maxSteps := 4000000) [List.getElem?_cons_zero, List.getElem?_cons_succ, h', oddB, Tryz.results164]
    · simp (maxSteps := 4000000) [List.getElem?_cons_zero, List.getElem?_cons_succ, h, d, e, oddB, Tryz.results164]
theorem firstOdd_def (l : List UInt8) : ∃ b, l.any oddB = b := ⟨_, rfl⟩
theorem CheckPath_eq (p : List UInt8) (hp : p.length ≤ 2 ^ 30) (σ) : ev 134 [.str p] σ = some (.int .i64 (pathB p), σ) := by
  have hw : ev 152 [.str [45, 46, 95, 126]] σ = some (.fn 184 [.gp σ.length 0 (some (9, 1))], σ ++ [[.str [45, 46, 95, 126]]]) := word_eq _ σ
  have he := elements_eq p [45, 46, 95, 126] hp σ.length (some (9, 1)) (σ ++ [[.str [45, 46, 95, 126]]]) (by simp)
  have hcl := cutB_le 47 p
  have hlm := lastB_mem p
  have hlx := lixI_eq 47 p
  have hC := Cut1_eq p (by omega) 47
  have hL := LastIndex1_eq p (by omega) 47
  have hM := SplitMajor_eq p hp
  have hlb : lastB p = match lix 47 p with
      | some n => p.drop (n + 1)
      | none => p := rfl
  refine EV_post rfl Tryz.func134 rfl (by simp [Tryz.ntmps134]) (by kernel_rfl) (by kernel_rfl) ?_
  by_cases h : 100 < p.length
  · have e1 : pathB p = 13 := by simp [pathB, h]
    simp (maxSteps := 4000000) [List.getElem?_cons_zero, List.getElem?_cons_succ, h, e1, Tryz.results134]
  · obtain ⟨⟨f, g, more⟩, hk⟩ : ∃ x, cutB 47 p = x := ⟨_, rfl⟩
    obtain ⟨⟨sm, n⟩, hk2⟩ : ∃ x, splitMB p = x := ⟨_, rfl⟩
    rw [hk] at hC hcl
    rw [hk2] at hM
    simp only at hC hcl hM
    have hf1 := Contains1_eq f (by omega) 46
    obtain ⟨od, hod⟩ := firstOdd_def f
    have hf2 := fun σ => some_eq f (by omega) 164 [] oddB (by decide) σ (fun c => odd_eq c σ)
    rw [hod] at hf2
    by_cases e : elemsB [45, 46, 95, 126] p = true
    · rw [e] at he
      by_cases e2 : 46 ∈ f
      · obtain ⟨c, r, hcr⟩ : ∃ c r, f = c :: r := by cases f with
          | nil => simp at e2
          | cons c r => exact ⟨c, r, rfl⟩
        have g0 : f[0]? = some c := by rw [hcr]; rfl
        have hh : f.head? = some c := by rw [hcr]; rfl
        cases od with
        | true =>
          have e1 : pathB p = 9 := by simp only [pathB, if_neg h, hk]; rw [if_pos (.inr (.inr (.inl hod)))]
          simp (maxSteps := 4000000) [List.getElem?_cons_zero, List.getElem?_cons_succ, h, hw, he, hC, hf1, e2, hf2, e1, Tryz.results134]
        | false =>
          by_cases e3 : c = 45
          · have e1 : pathB p = 9 := by simp only [pathB, if_neg h, hk]; rw [if_pos (.inr (.inr (.inr (by rw [hh, e3]))))]
            subst e3
            simp (maxSteps := 4000000) [List.getElem?_cons_zero, List.getElem?_cons_succ, -getElem?_pos, h, hw, he, hC, hf1, e2, hf2, g0, e1, Tryz.results134]
          · have hfin : pathB p = if more = true ∧ (lastB p).head? = some 118 ∧ allB isD (lastB p).tail = true ∧ n = 0 then 10 else 0 := by
              simp only [pathB, if_neg h, hk, hk2]; rw [if_neg (by simp [e, e2, hod, hh, e3])]
            obtain ⟨q, hq⟩ : ∃ q, lastB p = q := ⟨_, rfl⟩
            rw [hq] at hfin hlm hlb
            have hqe : elemB [45, 46, 95, 126] q = true := List.all_eq_true.1 e q hlm
            obtain ⟨d, t, hdt⟩ : ∃ d t, q = d :: t := by cases q with
              | nil => simp [elemB, allB] at hqe
              | cons c r => exact ⟨c, r, rfl⟩
            have hql : q.length ≤ 2 ^ 30 := by have := splitB_le hlm; omega
            have hx1 : ∃ m : Nat, IntKind.i64.wrap (lixI 47 p + 1) = (m : Int) ∧ m ≤ p.length ∧ List.drop m p = q := by
              cases hx : lix 47 p with
              | none =>
                rw [hx] at hlx hlb
                simp only at hlx hlb
                exact ⟨0, by rw [hlx]; decide, by omega, by rw [hlb]; rfl⟩
              | some i =>
                rw [hx] at hlx hlb
                simp only at hlx hlb
                have := (lix_some hx).1
                exact ⟨i + 1, by rw [hlx, wrap64 (by omega)]; omega, by omega, by rw [hlb]⟩
            obtain ⟨m, hm1, hm2, hm3⟩ := hx1
            have g1 : q[0]? = some d := by rw [hdt]; rfl
            have g2 : q.tail = t := by rw [hdt]; rfl
            have g3 : 1 ≤ q.length := by rw [hdt]; simp
            have hD := allD_eq t (by rw [hdt] at hql; simp at hql; omega)
            have h7 : q.head? = some d := by rw [hdt]; rfl
            have h8 : q.tail = t := by rw [hdt]; rfl
            rw [h7, h8] at hfin
            cases more with
            | false =>
              have e1 : pathB p = 0 := by rw [hfin, if_neg (by simp)]
              simp (maxSteps := 4000000) [List.getElem?_cons_zero, List.getElem?_cons_succ, -getElem?_pos, h, hw, he, hC, hf1, e2, hf2, g0, e3, hL, hm1, hm2, hm3, hM, e1, Tryz.results134]
            | true =>
              by_cases e4 : d = 118
              · by_cases e5 : allB isD t = true
                · by_cases e6 : n = 0
                  · have e1 : pathB p = 10 := by rw [hfin, if_pos (by simp [e4, e5, e6])]
                    subst e4 e6
                    simp (maxSteps := 4000000) [List.getElem?_cons_zero, List.getElem?_cons_succ, -getElem?_pos, h, hw, he, hC, hf1, e2, hf2, g0, e3, hL, hm1, hm2, hm3, hM, g1, g2, g3, hD, e5, e1, Tryz.results134]
                  · have e1 : pathB p = 0 := by rw [hfin, if_neg (by simp [e6])]
                    subst e4
                    simp (maxSteps := 4000000) [List.getElem?_cons_zero, List.getElem?_cons_succ, -getElem?_pos, h, hw, he, hC, hf1, e2, hf2, g0, e3, hL, hm1, hm2, hm3, hM, g1, g2, g3, hD, e5, e6, e1, Tryz.results134]
                · have e1 : pathB p = 0 := by rw [hfin, if_neg (by simp [e5])]
                  subst e4
                  simp (maxSteps := 4000000) [List.getElem?_cons_zero, List.getElem?_cons_succ, -getElem?_pos, h, hw, he, hC, hf1, e2, hf2, g0, e3, hL, hm1, hm2, hm3, hM, g1, g2, g3, hD, e5, e1, Tryz.results134]
              · have e1 : pathB p = 0 := by rw [hfin, if_neg (by simp [e4])]
                simp (maxSteps := 4000000) [List.getElem?_cons_zero, List.getElem?_cons_succ, -getElem?_pos, h, hw, he, hC, hf1, e2, hf2, g0, e3, hL, hm1, hm2, hm3, hM, g1, e4, e1, Tryz.results134]
      · have e1 : pathB p = 9 := by simp only [pathB, if_neg h, hk]; rw [if_pos (.inr (.inl e2))]
        simp (maxSteps := 4000000) [List.getElem?_cons_zero, List.getElem?_cons_succ, h, hw, he, hC, hf1, e2, e1, Tryz.results134]
    · have e : elemsB [45, 46, 95, 126] p = false := by simpa using e
      have e1 : pathB p = 9 := by simp only [pathB, if_neg h, hk]; rw [if_pos (.inl e)]
      simp (maxSteps := 4000000) [List.getElem?_cons_zero, List.getElem?_cons_succ, h, hw, he, hC, e, e1, Tryz.results134]
theorem Matches_eq (v p : List UInt8) (hv : v.length ≤ 2 ^ 30) (hp : p.length ≤ 2 ^ 30) (σ) : ev 136 [.str v, .str p] σ = some (.bool (matchesB v p), σ) := by
  have h1 := read_eq v hv
  have h2 := SplitMajor_eq p hp
  obtain ⟨⟨sm, n⟩, hk2⟩ : ∃ x, splitMB p = x := ⟨_, rfl⟩
  rw [hk2] at h2
  refine EV_post rfl Tryz.func136 rfl (by simp [Tryz.ntmps136]) (by kernel_rfl) (by kernel_rfl) ?_
  cases e1 : readB v with
  | none =>
    rw [e1] at h1
    have h4 : matchesB v p = false := by simp [matchesB, e1]
    simp (maxSteps := 4000000) [List.getElem?_cons_zero, List.getElem?_cons_succ, h1, h2, h4, verA, Tryz.results136]
  | some x =>
    rw [e1] at h1
    have h4 : matchesB v p = (decide (x.ma = n) || (decide (n = 0) && decide (x.ma = 1))) := by simp [matchesB, e1, hk2]
    by_cases d1 : x.ma = n
    · simp (maxSteps := 4000000) [List.getElem?_cons_zero, List.getElem?_cons_succ, h1, h2, h4, d1, verA, Tryz.results136]
    · by_cases d2 : n = 0
      · subst d2
        simp (maxSteps := 4000000) [List.getElem?_cons_zero, List.getElem?_cons_succ, h1, h2, h4, d1, verA, Tryz.results136]
      · simp (maxSteps := 4000000) [List.getElem?_cons_zero, List.getElem?_cons_succ, h1, h2, h4, d1, d2, verA, Tryz.results136]
end Go.Proofs.Tryz.Ai
end
section
/- mewsref3: paths. -/
namespace Go.Proofs.Tryz.Ai
open Go Go.AI Go.Proofs
set_option maxHeartbeats 4000000
set_option linter.unusedVariables false

theorem rLastSlash_eq (s : List UInt8) (hl : s.length ≤ 2 ^ 31) (σ) : ev 208 [.str s] σ = some (.int .i64 (lixI 47 s), σ) := by
  refine EV_post rfl Tryz.func208 rfl (by simp [Tryz.ntmps208]) (by kernel_rfl) (by kernel_rfl) ?_
  simp (maxSteps := 4000000) (disch := omega) [dT, dF, wrap64]
  refine Post_loop (I := fun k : Nat => ⟨[(0, .str s), (3, .int .i64 ((k : Int) - 1))], [], σ⟩) (Pr := fun k => k ≤ s.length ∧ lix 47 (s.take k) = lix 47 s) (μ := fun k => k) (a := s.length) (by simp) (by simp) ?_
  rintro k ⟨hk, hq⟩
  cases k with
  | zero =>
    have e1 : lixI 47 s = -1 := by unfold lixI; rw [← hq]; rfl
    simp (maxSteps := 4000000) [List.getElem?_cons_zero, List.getElem?_cons_succ, e1, Tryz.results208]
  | succ i =>
    have hc : i < s.length := by omega
    have e0 : (((i + 1 : Nat) : Int) - 1) = (i : Int) := by omega
    have e2 : IntKind.i64.wrap ((i : Int) - 1) = (i : Int) - 1 := wrap64 (by omega)
    obtain ⟨x, hcx⟩ : ∃ x, s[i] = x := ⟨_, rfl⟩
    have hx : s[i]? = some x := by rw [← hcx]; exact List.getElem?_eq_getElem hc
    rw [List.take_succ_eq_append_getElem hc, lix_snoc, hcx] at hq
    simp only [e0]
    by_cases hcc : x = 47
    · rw [if_pos hcc] at hq
      have e1 : lixI 47 s = i := by unfold lixI; rw [← hq]; simp; omega
      subst hcc
      simp (maxSteps := 4000000) [List.getElem?_cons_zero, List.getElem?_cons_succ, -getElem?_pos, hc, hx, e1, Tryz.results208]
    · rw [if_neg hcc] at hq
      simp (maxSteps := 4000000) [List.getElem?_cons_zero, List.getElem?_cons_succ, -getElem?_pos, hc, hx, hcc, e2]
      exact ⟨by omega, hq⟩
theorem relement_eq (s o : List UInt8) (more : UInt8) (ho : ∀ c : UInt8, decide (c ∈ o) = (c == 45 || (c == 46 || (c == 95 || (c == 126 || c == more))))) (hl : s.length ≤ 2 ^ 31) (σ) :
    ev 157 [.str s, .int .u8 more.toNat] σ = some (.bool (elemB o s), σ) := by
  refine EV_post rfl Tryz.func157 rfl (by simp [Tryz.ntmps157]) (by kernel_rfl) (by kernel_rfl) ?_
  cases s with
  | nil => simp (maxSteps := 4000000) [List.getElem?_cons_zero, List.getElem?_cons_succ, elemB, allB, Tryz.results157]
  | cons c r =>
    obtain ⟨d, hd⟩ : ∃ d, (c :: r)[r.length]? = some d := ⟨_, List.getElem?_eq_getElem (by simp)⟩
    have hlast : (c :: r).getLast? = some d := by rw [List.getLast?_eq_getElem?]; simpa using hd
    have w7 : IntKind.i64.wrap ((r.length : Int) + 1 - 1) = (r.length : Int) := by rw [wrap64 (by simp at hl; omega)]; omega
    have w8 : IntKind.i64.wrap (r.length : Int) = (r.length : Int) := wrap64 (by simp at hl; omega)
    by_cases e1 : c = 46
    · have hf : elemB o (c :: r) = false := by simp [elemB, e1]
      subst e1
      simp (maxSteps := 4000000) [List.getElem?_cons_zero, List.getElem?_cons_succ, hf, Tryz.results157]
    · by_cases e2 : d = 46
      · have hf : elemB o (c :: r) = false := by simp [elemB, hlast, e2]
        subst e2
        simp (maxSteps := 4000000) [List.getElem?_cons_zero, List.getElem?_cons_succ, -getElem?_pos, e1, w7, w8, hd, hf, Tryz.results157]
      · have he : elemB o (c :: r) = (c :: r).all (wordB o) := by simp [elemB, allB, hlast, e1, e2]
        rw [he]
        obtain ⟨S, hS⟩ : ∃ S, c :: r = S := ⟨_, rfl⟩
        have hSl : (r.length : Int) + 1 = S.length := by rw [← hS]; simp
        have g0 : S[0]? = some c := by rw [← hS]; rfl
        have gE : S.isEmpty = false := by rw [← hS]; rfl
        rw [hS] at hd hl ⊢
        have w9 : IntKind.i64.wrap ((S.length : Int) - 1) = (r.length : Int) := by rw [wrap64 (by omega)]; omega
        simp (maxSteps := 4000000) [List.getElem?_cons_zero, List.getElem?_cons_succ, -getElem?_pos, g0, gE, e1, w9, hd, e2]
        refine Post_loop (I := fun i : Nat => ⟨[(0, .str S), (1, .int .u8 more.toNat), (5, .int .i64 i)], [], σ⟩) (Pr := fun i => i ≤ S.length ∧ ∀ x ∈ S.take i, wordB o x = true) (μ := fun i => S.length - i) (a := 0) (by simp) (by simp) ?_
        rintro i ⟨hi, hn⟩
        by_cases hc : i < S.length
        · obtain ⟨x, hcx⟩ : ∃ x, S[i] = x := ⟨_, rfl⟩
          have hx : S[i]? = some x := by rw [← hcx]; exact List.getElem?_eq_getElem hc
          have e0 : IntKind.i64.wrap ((i : Int) + 1) = (i : Int) + 1 := wrap64 (by omega)
          have q1 := rdigit_eq x
          have q2 := rlower_eq x
          have q3 := rupper_eq x
          have hox := ho x
          have go : wordB o x = true → ∀ y ∈ S.take (i + 1), wordB o y = true := fun h => take_all hc hn (by rw [hcx]; exact h)
          have fin : wordB o x = true → ∃ a : Nat, (a ≤ S.length ∧ ∀ (y : UInt8), y ∈ List.take a S → wordB o y = true) ∧ S.length - a < S.length - i ∧ (i : Int) + 1 = (a : Int) := fun h => ⟨i + 1, ⟨by omega, go h⟩, by omega, by simp⟩
          by_cases d1 : isD x = true
          · simp (maxSteps := 4000000) [List.getElem?_cons_zero, List.getElem?_cons_succ, -getElem?_pos, hc, hx, q1, d1, e0]; exact fin (by simp [wordB, d1])
          · by_cases d2 : isL x = true
            · simp (maxSteps := 4000000) [List.getElem?_cons_zero, List.getElem?_cons_succ, -getElem?_pos, hc, hx, q1, q2, d1, d2, e0]; exact fin (by simp [wordB, d2])
            · by_cases d3 : isU x = true
              · simp (maxSteps := 4000000) [List.getElem?_cons_zero, List.getElem?_cons_succ, -getElem?_pos, hc, hx, q1, q2, q3, d1, d2, d3, e0]; exact fin (by simp [wordB, d3])
              · have q1' : ∀ σ, ev 191 [.int .u8 x.toNat] σ = some (.bool false, σ) := by simpa [d1] using q1
                have q2' : ∀ σ, ev 192 [.int .u8 x.toNat] σ = some (.bool false, σ) := by simpa [d2] using q2
                have q3' : ∀ σ, ev 193 [.int .u8 x.toNat] σ = some (.bool false, σ) := by simpa [d3] using q3
                have key : ∀ b, decide (x ∈ o) = b → wordB o x = b := fun b h => by simp only [wordB, d1, d2, d3, Bool.false_or, h]
                by_cases f1 : x = 45
                · have hw := fin (key true (by rw [hox, f1]; simp))
                  subst f1
                  have Q1 : ∀ σ, ev 191 [.int .u8 45] σ = some (.bool false, σ) := fun σ => rdigit_eq 45 σ
                  have Q2 : ∀ σ, ev 192 [.int .u8 45] σ = some (.bool false, σ) := fun σ => rlower_eq 45 σ
                  have Q3 : ∀ σ, ev 193 [.int .u8 45] σ = some (.bool false, σ) := fun σ => rupper_eq 45 σ
                  simp (maxSteps := 4000000) [List.getElem?_cons_zero, List.getElem?_cons_succ, -getElem?_pos, hc, hx, Q1, Q2, Q3, e0]; exact hw
                by_cases f2 : x = 46
                · have hw := fin (key true (by rw [hox, f2]; simp))
                  subst f2
                  have Q1 : ∀ σ, ev 191 [.int .u8 46] σ = some (.bool false, σ) := fun σ => rdigit_eq 46 σ
                  have Q2 : ∀ σ, ev 192 [.int .u8 46] σ = some (.bool false, σ) := fun σ => rlower_eq 46 σ
                  have Q3 : ∀ σ, ev 193 [.int .u8 46] σ = some (.bool false, σ) := fun σ => rupper_eq 46 σ
                  simp (maxSteps := 4000000) [List.getElem?_cons_zero, List.getElem?_cons_succ, -getElem?_pos, hc, hx, Q1, Q2, Q3, e0]; exact hw
                by_cases f3 : x = 95
                · have hw := fin (key true (by rw [hox, f3]; simp))
                  subst f3
                  have Q1 : ∀ σ, ev 191 [.int .u8 95] σ = some (.bool false, σ) := fun σ => rdigit_eq 95 σ
                  have Q2 : ∀ σ, ev 192 [.int .u8 95] σ = some (.bool false, σ) := fun σ => rlower_eq 95 σ
                  have Q3 : ∀ σ, ev 193 [.int .u8 95] σ = some (.bool false, σ) := fun σ => rupper_eq 95 σ
                  simp (maxSteps := 4000000) [List.getElem?_cons_zero, List.getElem?_cons_succ, -getElem?_pos, hc, hx, Q1, Q2, Q3, e0]; exact hw
                by_cases f4 : x = 126
                · have hw := fin (key true (by rw [hox, f4]; simp))
                  subst f4
                  have Q1 : ∀ σ, ev 191 [.int .u8 126] σ = some (.bool false, σ) := fun σ => rdigit_eq 126 σ
                  have Q2 : ∀ σ, ev 192 [.int .u8 126] σ = some (.bool false, σ) := fun σ => rlower_eq 126 σ
                  have Q3 : ∀ σ, ev 193 [.int .u8 126] σ = some (.bool false, σ) := fun σ => rupper_eq 126 σ
                  simp (maxSteps := 4000000) [List.getElem?_cons_zero, List.getElem?_cons_succ, -getElem?_pos, hc, hx, Q1, Q2, Q3, e0]; exact hw
                by_cases f5 : x = more
                · subst f5
                  have hw := fin (key true (by rw [hox]; simp))
                  simp (maxSteps := 4000000) [List.getElem?_cons_zero, List.getElem?_cons_succ, -getElem?_pos, hc, hx, q1', q2', q3', f1, f2, f3, f4, e0]; exact hw
                have hf : wordB o x = false := key false (by rw [hox]; simp [f1, f2, f3, f4, f5])
                have hA : S.all (wordB o) = false := by
                  rw [Bool.eq_false_iff]; intro h
                  have := List.all_eq_true.1 h _ (List.getElem_mem hc)
                  rw [hcx, hf] at this; cases this
                simp (maxSteps := 4000000) [List.getElem?_cons_zero, List.getElem?_cons_succ, -getElem?_pos, hc, hx, q1', q2', q3', f1, f2, f3, f4, f5, hA, Tryz.results157]
        · have hi' : i = S.length := by omega
          subst hi'
          rw [List.take_length] at hn
          have ht : S.all (wordB o) = true := List.all_eq_true.2 hn
          simp (maxSteps := 4000000) [List.getElem?_cons_zero, List.getElem?_cons_succ, hc, ht, Tryz.results157]
end Go.Proofs.Tryz.Ai
end
section
/- mewsref3: majors. -/
namespace Go.Proofs.Tryz.Ai
open Go Go.AI Go.Proofs
set_option maxHeartbeats 4000000
set_option linter.unusedVariables false

def sufB : List UInt8 → Nat
  | [] => 0
  | c :: r => if c ≠ 118 then 0 else match numB r with
    | none => 0
    | some n => n
theorem suf_maj {q : List UInt8} {n : Nat} (h : majB q = some n) : sufB q = n := by
  cases q with
  | nil => cases h
  | cons c r =>
    simp only [majB] at h
    simp only [sufB]
    split at h
    · cases h
    · rename_i h0
      rw [if_neg h0]
      split at h
      · cases h
      · rename_i m hm
        rw [hm]
        split at h
        · cases h
        · injection h
theorem rsuffix_eq (q : List UInt8) (hl : q.length ≤ 2 ^ 30) (σ) : ev 173 [.str q] σ = some (.tup [.int .i64 (sufB q), .bool (majB q).isSome], σ) := by
  refine EV_post rfl Tryz.func173 rfl (by simp [Tryz.ntmps173]) (by kernel_rfl) (by kernel_rfl) ?_
  cases q with
  | nil => simp (maxSteps := 4000000) [List.getElem?_cons_zero, List.getElem?_cons_succ, sufB, majB, Tryz.results173]
  | cons c r =>
    cases r with
    | nil =>
      have h1 : majB [c] = none := by simp [majB, numB, numOk, allB]
      have h2 : sufB [c] = 0 := by simp [sufB, numB, numOk, allB]
      simp (maxSteps := 4000000) [List.getElem?_cons_zero, List.getElem?_cons_succ, h1, h2, Tryz.results173]
    | cons d r =>
      obtain ⟨S, hS⟩ : ∃ S, d :: r = S := ⟨_, rfl⟩
      have hlen : S.length = r.length + 1 := by rw [← hS]; simp
      have hSl : S.length ≤ 2 ^ 30 := by rw [hS] at hl; simp at hl; omega
      rw [hS]
      have hn := rnumber_eq S (by omega)
      have c0 : ¬ ((S.length : Int) + 1 < 2) := by omega
      have c1 : ¬ (S.length + 1 < 2) := by omega
      have c2 : (1 : Int) ≤ (S.length : Int) + 1 := by omega
      by_cases e1 : c = 118
      · subst e1
        cases h : numOk S with
        | false =>
          have h1 : numB S = none := by simp [numB, h]
          have h2 : majB (118 :: S) = none := by simp [majB, h1]
          have h3 : sufB (118 :: S) = 0 := by simp [sufB, h1]
          rw [h] at hn
          simp (maxSteps := 4000000) [List.getElem?_cons_zero, List.getElem?_cons_succ, -getElem?_pos, c0, c1, c2, hn, h2, h3, Tryz.results173]
        | true =>
          have h1 : numB S = some (valB S) := by simp [numB, h]
          rw [h] at hn
          simp only [numOk, allB, Bool.and_eq_true, decide_eq_true_eq] at h
          have ha := rAtoi_eq S h.1.1.1 h.1.2 h.2
          have h3 : sufB (118 :: S) = valB S := by simp [sufB, h1]
          by_cases g : valB S < 2
          · have h2 : majB (118 :: S) = none := by simp [majB, h1, g]
            have g2 : ¬ (2 : Int) ≤ valB S := by omega
            simp (maxSteps := 4000000) [List.getElem?_cons_zero, List.getElem?_cons_succ, -getElem?_pos, c0, c1, c2, hn, ha, h2, h3, g, g2, Tryz.results173]
          · have h2 : majB (118 :: S) = some (valB S) := by simp [majB, h1, g]
            have g2 : (2 : Int) ≤ valB S := by omega
            have g3 : 2 ≤ valB S := by omega
            simp (maxSteps := 4000000) [List.getElem?_cons_zero, List.getElem?_cons_succ, -getElem?_pos, c0, c1, c2, hn, ha, h2, h3, g, g2, g3, Tryz.results173]
      · have h2 : majB (c :: S) = none := by simp [majB, e1]
        have h3 : sufB (c :: S) = 0 := by simp [sufB, e1]
        simp (maxSteps := 4000000) [List.getElem?_cons_zero, List.getElem?_cons_succ, -getElem?_pos, c0, c1, c2, e1, hn, h2, h3, Tryz.results173]
theorem rSplitMajor_eq (p : List UInt8) (hp : p.length ≤ 2 ^ 30) (σ) : ev 176 [.str p] σ = some (.tup [.str (splitMB p).1, .int .i64 (splitMB p).2], σ) := by
  have h1 := rLastSlash_eq p (by omega)
  refine EV_post rfl Tryz.func176 rfl (by simp [Tryz.ntmps176]) (by kernel_rfl) (by kernel_rfl) ?_
  cases hx : lix 47 p with
  | none =>
    have e1 : lixI 47 p = -1 := by simp [lixI, hx]
    have e2 : splitMB p = (p, 0) := by simp [splitMB, hx]
    simp (maxSteps := 4000000) [List.getElem?_cons_zero, List.getElem?_cons_succ, h1, e1, e2, Tryz.results176]
  | some i =>
    have e1 : lixI 47 p = i := by simp [lixI, hx]
    have hi := (lix_some hx).1
    obtain ⟨q, hq⟩ : ∃ q, p.drop (i + 1) = q := ⟨_, rfl⟩
    have hql : q.length ≤ 2 ^ 30 := by rw [← hq]; simp; omega
    have w1 : IntKind.i64.wrap ((i : Int) + 1) = (i : Int) + 1 := wrap64 (by omega)
    have w2 : i + 1 ≤ p.length := by omega
    have w3 : i ≤ p.length := by omega
    have h2 := rsuffix_eq q hql
    cases hm : majB q with
    | none =>
      have e2 : splitMB p = (p, 0) := by simp [splitMB, hx, hq, hm]
      rw [hm] at h2
      simp (maxSteps := 4000000) [List.getElem?_cons_zero, List.getElem?_cons_succ, h1, e1, e2, hq, w1, w2, w3, h2, Tryz.results176]
    | some n =>
      have e2 : splitMB p = (p.take i, n) := by simp [splitMB, hx, hq, hm]
      rw [hm, suf_maj hm] at h2
      simp (maxSteps := 4000000) [List.getElem?_cons_zero, List.getElem?_cons_succ, h1, e1, e2, hq, w1, w2, w3, h2, Tryz.results176]
end Go.Proofs.Tryz.Ai
end
section
/- mewsref3: checks of a path. -/
namespace Go.Proofs.Tryz.Ai
open Go Go.AI Go.Proofs
set_option maxHeartbeats 4000000
set_option linter.unusedVariables false

theorem rMatches_eq (v p : List UInt8) (hv : v.length ≤ 2 ^ 30) (hp : p.length ≤ 2 ^ 30) (σ) : ev 139 [.str v, .str p] σ = some (.bool (matchesB v p), σ) := by
  have h1 := rParts_eq v hv
  have h2 := rSplitMajor_eq p hp
  obtain ⟨⟨sm, n⟩, hk2⟩ : ∃ x, splitMB p = x := ⟨_, rfl⟩
  rw [hk2] at h2
  refine EV_post rfl Tryz.func139 rfl (by simp [Tryz.ntmps139]) (by kernel_rfl) (by kernel_rfl) ?_
  cases e1 : readB v with
  | none =>
    rw [e1] at h1
    have h4 : matchesB v p = false := by simp [matchesB, e1]
    simp (maxSteps := 4000000) [List.getElem?_cons_zero, List.getElem?_cons_succ, h1, h2, h4, rpartsA, Tryz.results139]
  | some x =>
    rw [e1] at h1
    have h4 : matchesB v p = (decide (x.ma = n) || (decide (n = 0) && decide (x.ma = 1))) := by simp [matchesB, e1, hk2]
    by_cases d1 : x.ma = n
    · simp (maxSteps := 4000000) [List.getElem?_cons_zero, List.getElem?_cons_succ, h1, h2, h4, d1, rpartsA, Tryz.results139]
    · have d1' : ¬ n = x.ma := fun e => d1 e.symm
      by_cases d2 : n = 0
      · subst d2
        by_cases d3 : x.ma = 1
        · simp (maxSteps := 4000000) [List.getElem?_cons_zero, List.getElem?_cons_succ, h1, h2, h4, d3, rpartsA, Tryz.results139]
        · have d4 : ¬ x.ma ≤ 1 := by omega
          simp (maxSteps := 4000000) [List.getElem?_cons_zero, List.getElem?_cons_succ, h1, h2, h4, d1, d1', d3, d4, rpartsA, Tryz.results139]
      · simp (maxSteps := 4000000) [List.getElem?_cons_zero, List.getElem?_cons_succ, h1, h2, h4, d1, d1', d2, rpartsA, Tryz.results139]
theorem rValid_eq (v : List UInt8) (hv : v.length ≤ 2 ^ 30) (σ) : ev 138 [.str v] σ = some (.bool (readB v).isSome, σ) := by
  have h1 := rParts_eq v hv
  refine EV_post rfl Tryz.func138 rfl (by simp [Tryz.ntmps138]) (by kernel_rfl) (by kernel_rfl) ?_
  cases e1 : readB v with
  | none => rw [e1] at h1; simp (maxSteps := 4000000) [List.getElem?_cons_zero, List.getElem?_cons_succ, h1, rpartsA, Tryz.results138]
  | some x => rw [e1] at h1; simp (maxSteps := 4000000) [List.getElem?_cons_zero, List.getElem?_cons_succ, h1, rpartsA, Tryz.results138]
def hostB (f : List UInt8) : Bool := !(f.any oddB) && (decide (46 ∈ f) && !(decide (f.head? = some 45)))
theorem rhost_eq (c : UInt8) (r : List UInt8) (hl : (c :: r).length ≤ 2 ^ 31) (σ) : ev 172 [.str (c :: r)] σ = some (.bool (hostB (c :: r)), σ) := by
  obtain ⟨S, hS⟩ : ∃ S, c :: r = S := ⟨_, rfl⟩
  have g0 : S[0]? = some c := by rw [← hS]; rfl
  have gh : S.head? = some c := by rw [← hS]; rfl
  rw [hS] at hl ⊢
  refine EV_post rfl Tryz.func172 rfl (by simp [Tryz.ntmps172]) (by kernel_rfl) (by kernel_rfl) ?_
  simp (maxSteps := 4000000) (disch := omega) [dT, dF, wrap64]
  refine Post_loop (I := fun i : Nat => ⟨[(0, .str S), (3, .bool (decide (46 ∈ S.take i))), (4, .int .i64 i)], [], σ⟩) (Pr := fun i => i ≤ S.length ∧ ∀ x ∈ S.take i, (!(oddB x)) = true) (μ := fun i => S.length - i) (a := 0) (by simp) (by simp) ?_
  rintro i ⟨hi, ha⟩
  by_cases hc : i < S.length
  · obtain ⟨x, hx⟩ : ∃ x, S[i] = x := ⟨_, rfl⟩
    have hx2 : S[i]? = some x := by rw [← hx]; exact List.getElem?_eq_getElem hc
    have q3 := rupper_eq x
    have w6 : IntKind.i64.wrap ((i : Int) + 1) = (i : Int) + 1 := wrap64 (by omega)
    have ht : decide (46 ∈ S.take (i + 1)) = (decide (46 ∈ S.take i) || decide (x = 46)) := by
      rw [List.take_succ_eq_append_getElem hc, hx]; simp [eq_comm]
    have bad : oddB x = true → hostB S = false := fun e => by
      have : S.any oddB = true := List.any_eq_true.2 ⟨x, hx ▸ List.getElem_mem hc, e⟩
      simp [hostB, this]
    obtain ⟨bt, hbt⟩ : ∃ b, decide (46 ∈ S.take i) = b := ⟨_, rfl⟩
    by_cases d1 : isU x = true
    · have hf := bad (by simp [oddB, d1])
      rw [d1] at q3
      simp (maxSteps := 4000000) [List.getElem?_cons_zero, List.getElem?_cons_succ, -getElem?_pos, hc, hx2, q3, hf, Tryz.results172]
    · have q3' : ∀ σ, ev 193 [.int .u8 x.toNat] σ = some (.bool false, σ) := by simpa [d1] using q3
      by_cases d2 : x = 95
      · have hf := bad (by simp [oddB, d2])
        subst d2
        have q4 : ∀ σ, ev 193 [.int .u8 95] σ = some (.bool false, σ) := q3'
        simp (maxSteps := 4000000) [List.getElem?_cons_zero, List.getElem?_cons_succ, -getElem?_pos, hc, hx2, q4, hf, Tryz.results172]
      · by_cases d3 : x = 126
        · have hf := bad (by simp [oddB, d3])
          subst d3
          have q4 : ∀ σ, ev 193 [.int .u8 126] σ = some (.bool false, σ) := q3'
          simp (maxSteps := 4000000) [List.getElem?_cons_zero, List.getElem?_cons_succ, -getElem?_pos, hc, hx2, q4, hf, Tryz.results172]
        · have ho : (!(oddB x)) = true := by simp [oddB, d1, d2, d3]
          have hn0 := take_all hc ha (by rw [hx]; exact ho)
          have hn : ∀ y ∈ S.take (i + 1), oddB y = false := fun y hy => by simpa using hn0 y hy
          rw [hbt] at ht
          rw [hbt]
          by_cases d4 : x = 46
          · subst d4
            have q4 : ∀ σ, ev 193 [.int .u8 46] σ = some (.bool false, σ) := q3'
            have ht2 : decide (46 ∈ S.take (i + 1)) = true := by rw [ht]; simp
            cases bt
            · simp (maxSteps := 4000000) [List.getElem?_cons_zero, List.getElem?_cons_succ, -getElem?_pos, hc, hx2, q4, w6]
              refine ⟨i + 1, ⟨by omega, hn⟩, by omega, ?_⟩
              simpa using ht2
            · simp (maxSteps := 4000000) [List.getElem?_cons_zero, List.getElem?_cons_succ, -getElem?_pos, hc, hx2, q4, w6]
              refine ⟨i + 1, ⟨by omega, hn⟩, by omega, ?_⟩
              simpa using ht2
          · have ht2 : decide (46 ∈ S.take (i + 1)) = bt := by rw [ht]; simp [d4]
            cases bt
            · simp (maxSteps := 4000000) [List.getElem?_cons_zero, List.getElem?_cons_succ, -getElem?_pos, hc, hx2, q3', d2, d3, d4, w6]
              refine ⟨i + 1, ⟨by omega, hn⟩, by omega, ?_⟩
              simpa using ht2
            · simp (maxSteps := 4000000) [List.getElem?_cons_zero, List.getElem?_cons_succ, -getElem?_pos, hc, hx2, q3', d2, d3, d4, w6]
              refine ⟨i + 1, ⟨by omega, hn⟩, by omega, ?_⟩
              simpa using ht2
  · have hi' : i = S.length := by omega
    subst hi'
    rw [List.take_length] at ha ⊢
    have hA : S.any oddB = false := by rw [Bool.eq_false_iff]; intro h; obtain ⟨x, hx, h2⟩ := List.any_eq_true.1 h; have := ha x hx; rw [h2] at this; cases this
    have hB : hostB S = (decide (46 ∈ S) && !(decide (c = 45))) := by simp [hostB, hA, gh]
    obtain ⟨bt, hbt⟩ : ∃ b, decide (46 ∈ S) = b := ⟨_, rfl⟩
    rw [hbt] at hB ⊢
    by_cases e3 : c = 45
    · subst e3
      cases bt
      · simp (maxSteps := 4000000) [List.getElem?_cons_zero, List.getElem?_cons_succ, -getElem?_pos, g0, hB, Tryz.results172]
      · simp (maxSteps := 4000000) [List.getElem?_cons_zero, List.getElem?_cons_succ, -getElem?_pos, g0, hB, Tryz.results172]
    · cases bt
      · simp (maxSteps := 4000000) [List.getElem?_cons_zero, List.getElem?_cons_succ, -getElem?_pos, g0, e3, hB, Tryz.results172]
      · simp (maxSteps := 4000000) [List.getElem?_cons_zero, List.getElem?_cons_succ, -getElem?_pos, g0, e3, hB, Tryz.results172]
end Go.Proofs.Tryz.Ai
end
section
/- mewsref3: CheckPath. -/
namespace Go.Proofs.Tryz.Ai
open Go Go.AI Go.Proofs
set_option maxHeartbeats 4000000
set_option linter.unusedVariables false

theorem rCheckPath_eq (p : List UInt8) (σ) : ev 137 [.str p] σ = some (.int .i64 (pathB p), σ) := by
  refine EV_post rfl Tryz.func137 rfl (by simp [Tryz.ntmps137]) (by kernel_rfl) (by kernel_rfl) ?_
  by_cases c0 : 100 < p.length
  · have h1 : pathB p = 13 := by simp [pathB, c0]
    have c1 : (100 : Int) < p.length := by omega
    simp (maxSteps := 4000000) [List.getElem?_cons_zero, List.getElem?_cons_succ, c0, c1, h1, Tryz.results137]
  · have c1 : ¬ (100 : Int) < p.length := by omega
    have hC : ∀ σ, ev 37 [.str p, .int .u8 47] σ = some (.sl (.ex 9 1) ((splitB 47 p).map .str), σ) := fun σ => Cut_eq p (by omega) 47 σ
    have hh := splitB_head 47 p
    have hg := lastB_get p
    have hz := splitMB_zero p
    obtain ⟨L, hL⟩ : ∃ L, splitB 47 p = L := ⟨_, rfl⟩
    have hm : ∀ x ∈ L, x.length ≤ 100 := fun x hx => Nat.le_trans (splitB_le (hL ▸ hx)) (by omega)
    have hn : L.length ≤ 101 := by rw [← hL]; have := splitB_many 47 p; omega
    have hn0 : 0 < L.length := by rw [← hL]; exact List.length_pos_iff.2 (splitB_ne 47 p)
    have hAll : elemsB [45, 46, 95, 126] p = L.all (elemB [45, 46, 95, 126]) := by unfold elemsB; rw [hL]
    rw [hL] at hC hh hg
    simp (maxSteps := 4000000) [List.getElem?_cons_zero, List.getElem?_cons_succ, c0, c1, hC]
    refine Post_loop (I := fun i : Nat => ⟨[(3, .sl (.ex 9 1) (L.map .str)), (4, .int .i64 i)], [], σ⟩) (Pr := fun i => i ≤ L.length ∧ ∀ x ∈ L.take i, elemB [45, 46, 95, 126] x = true) (μ := fun i => L.length - i) (a := 0) (by simp) (by simp) ?_
    rintro i ⟨hi, ha⟩
    by_cases hc : i < L.length
    · obtain ⟨x, hx⟩ : ∃ x, L[i] = x := ⟨_, rfl⟩
      have hx2 : L[i]? = some x := by rw [← hx]; exact List.getElem?_eq_getElem hc
      have hxl := hm x (hx ▸ List.getElem_mem hc)
      have h1 : ∀ σ, ev 157 [.str x, .int .u8 46] σ = some (.bool (elemB [45, 46, 95, 126] x), σ) := fun σ => relement_eq x [45, 46, 95, 126] 46 (fun c => by
        rw [Bool.eq_iff_iff]; simp; constructor
        · rintro (h | h | h | h) <;> simp [h]
        · rintro (h | h | h | h | h) <;> simp [h]) (by omega) σ
      have w6 : IntKind.i64.wrap ((i : Int) + 1) = (i : Int) + 1 := wrap64 (by omega)
      cases hA : elemB [45, 46, 95, 126] x with
      | true =>
        rw [hA] at h1
        simp (maxSteps := 4000000) [List.getElem?_cons_zero, List.getElem?_cons_succ, -getElem?_pos, hc, hx2, h1, w6]
        exact ⟨i + 1, ⟨by omega, take_all hc ha (by rw [hx]; exact hA)⟩, by omega, by simp⟩
      | false =>
        rw [hA] at h1
        have hf : pathB p = 9 := by
          have : elemsB [45, 46, 95, 126] p = false := by
            rw [hAll, Bool.eq_false_iff]; intro h; have := List.all_eq_true.1 h _ (hx ▸ List.getElem_mem hc); rw [hA] at this; cases this
          simp [pathB, c0, this]
        simp (maxSteps := 4000000) [List.getElem?_cons_zero, List.getElem?_cons_succ, -getElem?_pos, hc, hx2, h1, hf, Tryz.results137]
    · have hi' : i = L.length := by omega
      subst hi'
      rw [List.take_length] at ha
      have e : elemsB [45, 46, 95, 126] p = true := by rw [hAll]; exact List.all_eq_true.2 ha
      obtain ⟨⟨f, g, more⟩, hk⟩ : ∃ x, cutB 47 p = x := ⟨_, rfl⟩
      obtain ⟨⟨sm, n⟩, hk2⟩ : ∃ x, splitMB p = x := ⟨_, rfl⟩
      rw [hk] at hh hz
      rw [hk2] at hz
      simp only at hh hz
      obtain ⟨hh1, hh2⟩ := hh
      have hfe := ha f (List.mem_of_getElem? hh1)
      have hfl := hm f (List.mem_of_getElem? hh1)
      obtain ⟨q, hq⟩ : ∃ q, lastB p = q := ⟨_, rfl⟩
      rw [hq] at hg hz
      have hqe := ha q (List.mem_of_getElem? hg)
      have hql := hm q (List.mem_of_getElem? hg)
      obtain ⟨d, t, hdt⟩ : ∃ d t, q = d :: t := by cases q with
        | nil => simp [elemB, allB] at hqe
        | cons c r => exact ⟨c, r, rfl⟩
      obtain ⟨a, u, hau⟩ : ∃ a u, f = a :: u := by cases f with
        | nil => simp [elemB, allB] at hfe
        | cons c r => exact ⟨c, r, rfl⟩
      have hH : ∀ σ, ev 172 [.str f] σ = some (.bool (hostB f), σ) := by rw [hau] at hfl ⊢; exact rhost_eq a u (by omega)
      obtain ⟨k, hk3⟩ : ∃ k, L.length = k + 1 := ⟨L.length - 1, by omega⟩
      have hg' : L[k]? = some q := by rw [hk3] at hg; exact hg
      have w9 : IntKind.i64.wrap ((k : Int) + 1 - 1) = (k : Int) := by rw [wrap64 (by omega)]; omega
      have w10 : IntKind.i64.wrap (k : Int) = (k : Int) := wrap64 (by omega)
      have hS := rsuffix_eq q (by omega)
      have hD := rdigits_eq t (by rw [hdt] at hql; simp at hql; omega)
      have g1 : q[0]? = some d := by rw [hdt]; rfl
      have g2 : q.tail = t := by rw [hdt]; rfl
      have g3 : 1 ≤ q.length := by rw [hdt]; simp
      have g4 : List.drop 1 q = t := by rw [hdt]; rfl
      have h7 : q.head? = some d := by rw [hdt]; rfl
      have kH : hostB f = false ↔ (46 ∉ f ∨ f.any oddB = true ∨ f.head? = some 45) := by
        unfold hostB
        cases f.any oddB <;> by_cases x1 : 46 ∈ f <;> by_cases x2 : f.head? = some 45 <;> simp [x1, x2]
      cases hHb : hostB f with
      | false =>
        rw [hHb] at hH
        have e1 : pathB p = 9 := by simp only [pathB, if_neg c0, hk]; rw [if_pos (.inr (kH.1 hHb))]
        simp (maxSteps := 4000000) [List.getElem?_cons_zero, List.getElem?_cons_succ, -getElem?_pos, hk3, hh1, hH, e1, Tryz.results137]
      | true =>
        rw [hHb] at hH
        have hfin : pathB p = if more = true ∧ d = 118 ∧ allB isD t = true ∧ n = 0 then 10 else 0 := by
          simp only [pathB, if_neg c0, hk, hk2, hq, h7, g2, Option.some.injEq]
          rw [if_neg]
          rintro (h | h)
          · rw [e] at h; cases h
          · rw [kH.2 h] at hHb; cases hHb
        by_cases e3 : k = 0
        · have hm2 : more = false := by rw [Bool.eq_false_iff]; intro h; have := hh2.1 h; omega
          have e1 : pathB p = 0 := by rw [hfin, if_neg (by simp [hm2])]
          subst e3
          have hfq : f = q := by rw [hh1] at hg'; injection hg'
          rw [← hfq] at hS
          have w0 : IntKind.i64.wrap 0 = 0 := by decide
          simp (maxSteps := 4000000) [List.getElem?_cons_zero, List.getElem?_cons_succ, -getElem?_pos, hk3, hh1, hH, w0, hS, e1, Tryz.results137]
        · have hm2 : more = true := hh2.2 (by omega)
          have c3 : (1 : Int) < (k : Int) + 1 := by omega
          have c4 : 1 < k + 1 := by omega
          have c5 : 0 < k := by omega
          by_cases e4 : d = 118
          · subst e4
            cases e5 : allB isD t with
            | true =>
              rw [e5] at hD
              cases e6 : majB q with
              | none =>
                have e1 : pathB p = 10 := by rw [hfin, if_pos ⟨hm2, rfl, e5, (hz hm2).2 e6⟩]
                rw [e6] at hS
                simp (maxSteps := 4000000) [List.getElem?_cons_zero, List.getElem?_cons_succ, -getElem?_pos, hk3, hh1, hH, hg', w9, w10, hS, c3, c4, c5, g1, g3, g2, hD, e1, Tryz.results137]
              | some v =>
                have e1 : pathB p = 0 := by rw [hfin, if_neg]; rintro ⟨_, _, _, h⟩; rw [(hz hm2).1 h] at e6; cases e6
                rw [e6] at hS
                simp (maxSteps := 4000000) [List.getElem?_cons_zero, List.getElem?_cons_succ, -getElem?_pos, hk3, hh1, hH, hg', w9, w10, hS, c3, c4, c5, g1, g3, g2, hD, e1, Tryz.results137]
            | false =>
              have e1 : pathB p = 0 := by rw [hfin, if_neg (by simp [e5])]
              rw [e5] at hD
              simp (maxSteps := 4000000) [List.getElem?_cons_zero, List.getElem?_cons_succ, -getElem?_pos, hk3, hh1, hH, hg', w9, w10, hS, c3, c4, c5, g1, g3, g2, hD, e1, Tryz.results137]
          · have e1 : pathB p = 0 := by rw [hfin, if_neg (by simp [e4])]
            simp (maxSteps := 4000000) [List.getElem?_cons_zero, List.getElem?_cons_succ, -getElem?_pos, hk3, hh1, hH, hg', w9, w10, hS, c3, c4, c5, g1, e4, e1, Tryz.results137]
end Go.Proofs.Tryz.Ai
end
section
/- mod.Compare. -/
namespace Go.Proofs.Tryz.Ai
open Go Go.AI Go.Proofs
set_option maxHeartbeats 2000000
set_option linter.unusedVariables false

def orL (l : List Int) : Int := l.foldr orI 0
def intC (x y : Int) : Int := if x < y then -1 else if y < x then 1 else 0
theorem intC_nat (a b : Nat) : intC a b = natC a b := by unfold intC natC; simp only [Int.ofNat_lt]
theorem orI_zero (x : Int) : orI x 0 = x := by unfold orI; split <;> omega
theorem orL_drop (l : List Int) (i : Nat) (h : ∀ x ∈ l.take i, x = 0) : orL l = orL (l.drop i) := by
  induction l generalizing i with
  | nil => simp
  | cons a r ih =>
    cases i with
    | zero => rfl
    | succ i =>
      simp only [List.take_succ_cons, List.mem_cons, forall_eq_or_imp] at h
      rw [List.drop_succ_cons, ← ih i h.2]
      simp [orL, orI, h.1]
theorem cmpOr_eq (l : List Int) (hl : l.length ≤ 2 ^ 31) (σ) : ev 161 [.sl .sh (l.map (.int .i64))] σ = some (.int .i64 (orL l), σ) := by
  refine EV_post rfl Tryz.func161 rfl (by simp [Tryz.ntmps161]) (by kernel_rfl) (by kernel_rfl) ?_
  simp (maxSteps := 4000000) (disch := omega) [dT, dF, wrap64]
  refine Post_loop (I := fun i : Nat => ⟨[(3, .int .i64 0), (6, .sl .sh (l.map (.int .i64))), (7, .int .i64 l.length), (8, .int .i64 i)], [], σ⟩) (Pr := fun i => i ≤ l.length ∧ ∀ x ∈ l.take i, x = 0) (μ := fun i => l.length - i) (a := 0) (by simp) (by simp) ?_
  rintro i ⟨hi, hn⟩
  by_cases hc : i < l.length
  · obtain ⟨x, hx⟩ : ∃ x, l[i] = x := ⟨_, rfl⟩
    have hx2 : l[i]? = some x := by rw [← hx]; exact List.getElem?_eq_getElem hc
    have w6 : IntKind.i64.wrap ((i : Int) + 1) = (i : Int) + 1 := wrap64 (by omega)
    have hd := orL_drop l i hn
    rw [List.drop_eq_getElem_cons hc, hx] at hd
    by_cases hq : x = 0
    · simp (maxSteps := 4000000) [List.getElem?_cons_zero, List.getElem?_cons_succ, -getElem?_pos, hc, hx2, hq, w6]
      exact ⟨i + 1, ⟨by omega, take_all (p := id) hc hn (hx.trans hq)⟩, by omega, by simp⟩
    · have h2 : orL l = x := by rw [hd]; simp [orL, orI, hq]
      simp (maxSteps := 4000000) [List.getElem?_cons_zero, List.getElem?_cons_succ, -getElem?_pos, hc, hx2, hq, h2, Tryz.results161]
  · have hi' : i = l.length := by omega
    subst hi'
    have hd := orL_drop l _ hn
    simp only [List.drop_length] at hd
    have h2 : orL l = 0 := hd
    simp (maxSteps := 4000000) [List.getElem?_cons_zero, List.getElem?_cons_succ, h2, Tryz.results161]
theorem cmpInt_eq (x y : Int) (σ) : ev 85 [.int .i64 x, .int .i64 y] σ = some (.int .i64 (intC x y), σ) := by
  have hn : ∀ z σ, ev 130 [.int .i64 z] σ = some (.bool false, σ) := by
    intro z σ
    refine EV_post rfl Tryz.func130 rfl (by simp [Tryz.ntmps130]) (by kernel_rfl) (by kernel_rfl) ?_
    simp (maxSteps := 4000000) [List.getElem?_cons_zero, List.getElem?_cons_succ, Tryz.results130]
  refine EV_post rfl Tryz.func85 rfl (by simp [Tryz.ntmps85]) (by kernel_rfl) (by kernel_rfl) ?_
  by_cases h1 : x < y
  · simp (maxSteps := 4000000) [List.getElem?_cons_zero, List.getElem?_cons_succ, hn, h1, intC, Tryz.results85]
  · by_cases h2 : y < x
    · simp (maxSteps := 4000000) [List.getElem?_cons_zero, List.getElem?_cons_succ, hn, h1, h2, intC, Tryz.results85]
    · simp (maxSteps := 4000000) [List.getElem?_cons_zero, List.getElem?_cons_succ, hn, h1, h2, intC, Tryz.results85]
theorem cmpNat_eq (x y : Nat) (σ) : ev 85 [.int .i64 x, .int .i64 y] σ = some (.int .i64 (natC x y), σ) := by rw [cmpInt_eq, intC_nat]
theorem Compare_eq (a b : List UInt8) (σ) : ev 162 [.str a, .str b] σ = some (.int .i64 (bytesC a b), σ) := by
  have h1 : ∀ σ, ev 199 [.str a, .str b] σ = some (.int .i64 (bytesC a b), σ) := fun σ => by rw [ev_compare]; simp [compareT, compareBytes_eq]
  refine EV_post rfl Tryz.func162 rfl (by simp [Tryz.ntmps162]) (by kernel_rfl) (by kernel_rfl) ?_
  simp (maxSteps := 4000000) [List.getElem?_cons_zero, List.getElem?_cons_succ, h1, Tryz.results162]
theorem CompareFunc_eq (L M : List (List UInt8)) (hL : L.length ≤ 2 ^ 31) (hM : M.length ≤ 2 ^ 31) (g : Nat) (cap : List AV) (c : List UInt8 → List UInt8 → Int) (hg : g < 100000) (σ : List (List AV))
    (hp : ∀ a ∈ L, ∀ b ∈ M, ev g (.str a :: .str b :: cap) σ = some (.int .i64 (c a b), σ)) :
    ev 225 [.sl .sh (L.map .str), .sl .sh (M.map .str), .fn g cap] σ = some (.int .i64 (lexC c L M), σ) := by
  refine EV_post rfl Tryz.func225 rfl (by simp [Tryz.ntmps225]) (by kernel_rfl) (by kernel_rfl) ?_
  simp (maxSteps := 4000000) (disch := omega) [dT, dF, wrap64]
  refine Post_loop (I := fun i : Nat => ⟨[(0, .sl .sh (L.map .str)), (1, .sl .sh (M.map .str)), (2, .fn g cap), (11, .sl .sh (L.map .str)), (12, .int .i64 L.length), (13, .int .i64 i)], [], σ⟩)
    (Pr := fun i => i ≤ L.length ∧ i ≤ M.length ∧ lexC c L M = lexC c (L.drop i) (M.drop i)) (μ := fun i => L.length - i) (a := 0) (by simp) (by simp) ?_
  rintro i ⟨hi, hj, hn⟩
  by_cases hc : i < L.length
  · obtain ⟨x, hx⟩ : ∃ x, L[i] = x := ⟨_, rfl⟩
    have hx2 : L[i]? = some x := by rw [← hx]; exact List.getElem?_eq_getElem hc
    have w6 : IntKind.i64.wrap ((i : Int) + 1) = (i : Int) + 1 := wrap64 (by omega)
    rw [List.drop_eq_getElem_cons hc, hx] at hn
    by_cases hd : i < M.length
    · obtain ⟨y, hy⟩ : ∃ y, M[i] = y := ⟨_, rfl⟩
      have hy2 : M[i]? = some y := by rw [← hy]; exact List.getElem?_eq_getElem hd
      have hd' : ¬ M.length ≤ i := by omega
      rw [List.drop_eq_getElem_cons hd, hy] at hn
      have hq := hp x (hx ▸ List.getElem_mem hc) y (hy ▸ List.getElem_mem hd)
      by_cases hz : c x y = 0
      · have h2 : lexC c L M = lexC c (L.drop (i + 1)) (M.drop (i + 1)) := by rw [hn]; simp [lexC, orI, hz]
        simp (maxSteps := 4000000) [List.getElem?_cons_zero, List.getElem?_cons_succ, -getElem?_pos, hc, hd, hd', hx2, hy2, hg, hq, hz, w6]
        exact ⟨i + 1, ⟨by omega, by omega, h2⟩, by omega, by simp⟩
      · have h2 : lexC c L M = c x y := by rw [hn]; simp [lexC, orI, hz]
        simp (maxSteps := 4000000) [List.getElem?_cons_zero, List.getElem?_cons_succ, -getElem?_pos, hc, hd, hd', hx2, hy2, hg, hq, hz, h2, Tryz.results225]
    · have hd' : M.length ≤ i := by omega
      have h3 : M.drop i = [] := List.drop_of_length_le hd'
      have h2 : lexC c L M = 1 := by rw [hn, h3]; simp [lexC]
      simp (maxSteps := 4000000) [List.getElem?_cons_zero, List.getElem?_cons_succ, -getElem?_pos, hc, hd, hd', hx2, h2, Tryz.results225]
  · have hi' : i = L.length := by omega
    subst hi'
    rw [List.drop_length] at hn
    by_cases hd : L.length < M.length
    · have h2 : lexC c L M = -1 := by rw [hn, List.drop_eq_getElem_cons hd]; simp [lexC]
      simp (maxSteps := 4000000) [List.getElem?_cons_zero, List.getElem?_cons_succ, hd, h2, Tryz.results225]
    · have h2 : lexC c L M = 0 := by rw [hn, List.drop_of_length_le (by omega)]; simp [lexC]
      simp (maxSteps := 4000000) [List.getElem?_cons_zero, List.getElem?_cons_succ, hd, h2, Tryz.results225]
theorem pres1_eq (a b : List UInt8) (ha : a.length ≤ 2 ^ 31) (hb : b.length ≤ 2 ^ 31) (σ) : ev 226 [.str a, .str b] σ = some (.int .i64 (idC a b), σ) := by
  have h1 := allD_eq a ha
  have h2 := allD_eq b hb
  have h3 := Compare_eq a b
  have h4 := cmpNat_eq a.length b.length
  have h5 := fun σ => cmpOr_eq [natC a.length b.length, bytesC a b] (by simp) σ
  have h6 : orL [natC a.length b.length, bytesC a b] = orI (natC a.length b.length) (bytesC a b) := by simp only [orL, List.foldr_cons, List.foldr_nil, orI_zero]
  rw [h6] at h5
  simp only [List.map_cons, List.map_nil] at h5
  refine EV_post rfl Tryz.func226 rfl (by simp [Tryz.ntmps226]) (by kernel_rfl) (by kernel_rfl) ?_
  by_cases d1 : allB isD a = true
  · by_cases d2 : allB isD b = true
    · simp (maxSteps := 4000000) [List.getElem?_cons_zero, List.getElem?_cons_succ, h1, h2, h3, h4, h5, d1, d2, idC, Tryz.results226]
    · simp (maxSteps := 4000000) [List.getElem?_cons_zero, List.getElem?_cons_succ, h1, h2, h3, d1, d2, idC, Tryz.results226]
  · by_cases d2 : allB isD b = true
    · simp (maxSteps := 4000000) [List.getElem?_cons_zero, List.getElem?_cons_succ, h1, h2, h3, d1, d2, idC, Tryz.results226]
    · simp (maxSteps := 4000000) [List.getElem?_cons_zero, List.getElem?_cons_succ, h1, h2, h3, d1, d2, idC, Tryz.results226]
theorem pres_eq (a b : List UInt8) (ha : a.length ≤ 2 ^ 30) (hb : b.length ≤ 2 ^ 30) (σ) : ev 200 [.str a, .str b] σ = some (.int .i64 (presC a b), σ) := by
  have hmin : ∀ l : List UInt8, (if 1 < l.length then (1 : Int) else l.length) = ((min l.length 1 : Nat) : Int) := by intro l; split <;> omega
  have h1 := cmpNat_eq (min b.length 1) (min a.length 1)
  have h2 := Split1_eq a ha 46
  have h3 := Split1_eq b hb 46
  have h4 := fun σ => CompareFunc_eq (splitB 46 a) (splitB 46 b) (by have := splitB_many 46 a; omega) (by have := splitB_many 46 b; omega) 226 [] idC (by decide) σ
    (fun x hx y hy => pres1_eq x y (by have := splitB_le hx; omega) (by have := splitB_le hy; omega) σ)
  refine EV_post rfl Tryz.func200 rfl (by simp [Tryz.ntmps200]) (by kernel_rfl) (by kernel_rfl) ?_
  by_cases e1 : a = []
  · subst e1
    have h5 : presC [] b = natC (min b.length 1) 0 := by simp [presC]
    have h1' : ∀ σ, ev 85 [.int .i64 ((min b.length 1 : Nat) : Int), .int .i64 0] σ = some (.int .i64 (natC (min b.length 1) 0), σ) := h1
    simp (maxSteps := 4000000) [List.getElem?_cons_zero, List.getElem?_cons_succ, hmin, h1', h5, Tryz.results200]
  · by_cases e2 : b = []
    · subst e2
      have h5 : presC a [] = natC 0 (min a.length 1) := by simp [presC]
      have h1' : ∀ σ, ev 85 [.int .i64 0, .int .i64 ((min a.length 1 : Nat) : Int)] σ = some (.int .i64 (natC 0 (min a.length 1)), σ) := h1
      have e1' : a.isEmpty = false := by simpa using e1
      simp (maxSteps := 4000000) [List.getElem?_cons_zero, List.getElem?_cons_succ, e1', hmin, h1', h5, Tryz.results200]
    · have h5 : presC a b = lexC idC (splitB 46 a) (splitB 46 b) := by simp [presC, e1, e2]
      have e1' : a.isEmpty = false := by simpa using e1
      have e2' : b.isEmpty = false := by simpa using e2
      simp (maxSteps := 4000000) [List.getElem?_cons_zero, List.getElem?_cons_succ, e1', e2', h2, h3, h4, h5, Tryz.results200]
theorem cmpB_eq (a b : List UInt8) (ha : a.length ≤ 2 ^ 30) (hb : b.length ≤ 2 ^ 30) (σ) : ev 163 [.str a, .str b] σ = some (.int .i64 (cmpB a b), σ) := by
  have h1 := read_eq a ha
  have h2 := read_eq b hb
  have h3 := Compare_eq a b
  refine EV_post rfl Tryz.func163 rfl (by simp [Tryz.ntmps163]) (by kernel_rfl) (by kernel_rfl) ?_
  cases e1 : readB a with
  | none =>
    rw [e1] at h1
    cases e2 : readB b with
    | none =>
      rw [e2] at h2
      have h4 : cmpB a b = bytesC a b := by simp [cmpB, e1, e2]
      simp (maxSteps := 4000000) [List.getElem?_cons_zero, List.getElem?_cons_succ, h1, h2, h3, h4, verA, Tryz.results163]
    | some y =>
      rw [e2] at h2
      have h4 : cmpB a b = -1 := by simp [cmpB, e1, e2]
      simp (maxSteps := 4000000) [List.getElem?_cons_zero, List.getElem?_cons_succ, h1, h2, h3, h4, verA, Tryz.results163]
  | some x =>
    rw [e1] at h1
    cases e2 : readB b with
    | none =>
      rw [e2] at h2
      have h4 : cmpB a b = 1 := by simp [cmpB, e1, e2]
      simp (maxSteps := 4000000) [List.getElem?_cons_zero, List.getElem?_cons_succ, h1, h2, h3, h4, verA, Tryz.results163]
    | some y =>
      rw [e2] at h2
      have h4 : cmpB a b = verC x y := by simp [cmpB, e1, e2]
      have rx := readB_some e1
      have ry := readB_some e2
      have p1 : x.pre.length ≤ 2 ^ 30 := by
        have := rx.len; rw [rx.text] at this; unfold verT at this; split at this
        · rename_i q; rw [q]; simp
        · simp at this; omega
      have p2 : y.pre.length ≤ 2 ^ 30 := by
        have := ry.len; rw [ry.text] at this; unfold verT at this; split at this
        · rename_i q; rw [q]; simp
        · simp at this; omega
      have h5 := cmpNat_eq x.ma y.ma
      have h6 := cmpNat_eq x.mi y.mi
      have h7 := cmpNat_eq x.pa y.pa
      have h8 := pres_eq x.pre y.pre p1 p2
      have h9 := fun σ => cmpOr_eq [natC x.ma y.ma, natC x.mi y.mi, natC x.pa y.pa, presC x.pre y.pre] (by simp) σ
      have ha : orL [natC x.ma y.ma, natC x.mi y.mi, natC x.pa y.pa, presC x.pre y.pre] = verC x y := by
        unfold verC; simp only [orL, List.foldr_cons, List.foldr_nil, orI_zero]
      rw [ha] at h9
      simp only [List.map_cons, List.map_nil] at h9
      simp (maxSteps := 4000000) [List.getElem?_cons_zero, List.getElem?_cons_succ, h1, h2, h3, h4, h5, h6, h7, h8, h9, verA, Tryz.results163]
end Go.Proofs.Tryz.Ai
end
section
/- mod: what of versions is told; pseudo-versions. -/
namespace Go.Proofs.Tryz.Ai
open Go Go.AI Go.Proofs
set_option maxHeartbeats 2000000
set_option linter.unusedVariables false

end Go.Proofs.Tryz.Ai
end
section
/- mod: what of versions is told; pseudo-versions. -/
namespace Go.Proofs.Tryz.Ai
open Go Go.AI Go.Proofs
set_option maxHeartbeats 2000000
set_option linter.unusedVariables false

theorem Valid_eq (s : List UInt8) (hl : s.length ≤ 2 ^ 30) (σ) : ev 135 [.str s] σ = some (.bool (readB s).isSome, σ) := by
  have h1 := read_eq s hl
  refine EV_post rfl Tryz.func135 rfl (by simp [Tryz.ntmps135]) (by kernel_rfl) (by kernel_rfl) ?_
  cases e1 : readB s with
  | none => rw [e1] at h1; simp (maxSteps := 4000000) [List.getElem?_cons_zero, List.getElem?_cons_succ, h1, verA, Tryz.results135]
  | some x => rw [e1] at h1; simp (maxSteps := 4000000) [List.getElem?_cons_zero, List.getElem?_cons_succ, h1, verA, Tryz.results135]
def partsA : Option Ver → AV
  | some v => .tup [.int .i64 v.ma, .int .i64 v.mi, .int .i64 v.pa, .str v.pre, .bool true]
  | none => .tup [.int .i64 0, .int .i64 0, .int .i64 0, .str [], .bool false]
end Go.Proofs.Tryz.Ai
end
section
/- mod and mewsref3: Check. -/
namespace Go.Proofs.Tryz.Ai
open Go Go.AI Go.Proofs
set_option maxHeartbeats 4000000
set_option linter.unusedVariables false

theorem Check_eq (p v : List UInt8) (hp : p.length ≤ 2 ^ 30) (hv : v.length ≤ 2 ^ 30) (σ) : ev 93 [.agg [.str p, .str v]] σ = some (.int .i64 (checkB p v), σ) := by
  have h1 := CheckPath_eq p hp
  have h2 := Valid_eq v hv
  have h3 := Matches_eq v p hv hp
  refine EV_post rfl Tryz.func93 rfl (by simp [Tryz.ntmps93]) (by kernel_rfl) (by kernel_rfl) ?_
  by_cases c1 : pathB p = 0
  · rw [c1] at h1
    cases e2 : readB v with
    | none =>
      rw [e2] at h2
      have hf : checkB p v = 8 := by simp [checkB, c1, e2]
      simp (maxSteps := 4000000) [List.getElem?_cons_zero, List.getElem?_cons_succ, h1, h2, hf, Tryz.results93]
    | some x =>
      rw [e2] at h2
      cases e3 : matchesB v p with
      | false =>
        rw [e3] at h3
        have hf : checkB p v = 10 := by simp [checkB, c1, e2, e3]
        simp (maxSteps := 4000000) [List.getElem?_cons_zero, List.getElem?_cons_succ, h1, h2, h3, hf, Tryz.results93]
      | true =>
        rw [e3] at h3
        have hf : checkB p v = 0 := by simp [checkB, c1, e2, e3]
        simp (maxSteps := 4000000) [List.getElem?_cons_zero, List.getElem?_cons_succ, h1, h2, h3, hf, Tryz.results93]
  · have hf : checkB p v = pathB p := by simp [checkB, c1]
    simp (maxSteps := 4000000) [List.getElem?_cons_zero, List.getElem?_cons_succ, h1, c1, hf, Tryz.results93]
theorem rCheck_eq (p v : List UInt8) (hp : p.length ≤ 2 ^ 30) (hv : v.length ≤ 2 ^ 30) (σ) : ev 95 [.agg [.str p, .str v]] σ = some (.int .i64 (checkB p v), σ) := by
  have h1 := rCheckPath_eq p
  have h2 := rValid_eq v hv
  have h3 := rMatches_eq v p hv hp
  refine EV_post rfl Tryz.func95 rfl (by simp [Tryz.ntmps95]) (by kernel_rfl) (by kernel_rfl) ?_
  by_cases c1 : pathB p = 0
  · rw [c1] at h1
    cases e2 : readB v with
    | none =>
      rw [e2] at h2
      have hf : checkB p v = 8 := by simp [checkB, c1, e2]
      simp (maxSteps := 4000000) [List.getElem?_cons_zero, List.getElem?_cons_succ, h1, h2, hf, Tryz.results95]
    | some x =>
      rw [e2] at h2
      cases e3 : matchesB v p with
      | false =>
        rw [e3] at h3
        have hf : checkB p v = 10 := by simp [checkB, c1, e2, e3]
        simp (maxSteps := 4000000) [List.getElem?_cons_zero, List.getElem?_cons_succ, h1, h2, h3, hf, Tryz.results95]
      | true =>
        rw [e3] at h3
        have hf : checkB p v = 0 := by simp [checkB, c1, e2, e3]
        simp (maxSteps := 4000000) [List.getElem?_cons_zero, List.getElem?_cons_succ, h1, h2, h3, hf, Tryz.results95]
  · have hf : checkB p v = pathB p := by simp [checkB, c1]
    simp (maxSteps := 4000000) [List.getElem?_cons_zero, List.getElem?_cons_succ, h1, c1, hf, Tryz.results95]
end Go.Proofs.Tryz.Ai
end
section
/- sumfile: sums, one line. -/
namespace Go.Proofs.Tryz.Ai
open Go Go.AI Go.Proofs Go.B64
set_option maxHeartbeats 8000000
set_option maxRecDepth 4000
set_option linter.unusedVariables false

theorem ix_plc : ∀ c : Fin 256, ixI (UInt8.ofNat c.val) [65, 66, 67, 68, 69, 70, 71, 72, 73, 74, 75, 76, 77, 78, 79, 80, 81, 82, 83, 84, 85, 86, 87, 88, 89, 90, 97, 98, 99, 100, 101, 102, 103, 104, 105, 106, 107, 108, 109, 110, 111, 112, 113, 114, 115, 116, 117, 118, 119, 120, 121, 122, 48, 49, 50, 51, 52, 53, 54, 55, 56, 57, 43, 47] = plc (UInt8.ofNat c.val) := by decide +kernel
theorem ix_plc' (c : UInt8) : ixI c [65, 66, 67, 68, 69, 70, 71, 72, 73, 74, 75, 76, 77, 78, 79, 80, 81, 82, 83, 84, 85, 86, 87, 88, 89, 90, 97, 98, 99, 100, 101, 102, 103, 104, 105, 106, 107, 108, 109, 110, 111, 112, 113, 114, 115, 116, 117, 118, 119, 120, 121, 122, 48, 49, 50, 51, 52, 53, 54, 55, 56, 57, 43, 47] = plc c := by
  have := ix_plc ⟨c.toNat, c.toNat_lt⟩
  simpa using this
theorem sumB_len {s : List UInt8} (h : sumB s = true) : s.length = 47 := by
  obtain ⟨b, hb, rfl⟩ := (sumB_iff s).1 h
  simp [b64_len, hb]
theorem sumB_of {y : List UInt8} (hl : y.length = 43) (h : ∀ c ∈ y, 0 ≤ plc c) : sumB ([104, 49, 58] ++ (y ++ [61])) = decide (plc (y.getD 42 0) % 4 = 0) := by
  unfold sumB
  have e1 : ((([104, 49, 58] : List UInt8) ++ (y ++ [61])).drop 3).take 43 = y := by simp [← hl]
  have e2 : (([104, 49, 58] : List UInt8) ++ (y ++ [61])).getD 45 0 = y.getD 42 0 := by
    simp [List.getD]
    rw [List.getElem?_append_left (by omega)]
  rw [e1, e2]
  have e3 : (([104, 49, 58] : List UInt8) ++ (y ++ [61])).drop 46 = [61] := by simp [List.drop_append, hl]
  rw [e3]
  have e4 : y.all (fun c => decide (0 ≤ plc c)) = true := by simpa using h
  rw [e4]
  simp [hl]
theorem sumB_bad {y : List UInt8} (h : ∃ c ∈ y, plc c < 0) (hl : y.length = 43) : sumB ([104, 49, 58] ++ (y ++ [61])) = false := by
  obtain ⟨c, hc, h0⟩ := h
  unfold sumB
  have e1 : ((([104, 49, 58] : List UInt8) ++ (y ++ [61])).drop 3).take 43 = y := by simp [← hl]
  rw [e1]
  have e4 : y.all (fun c => decide (0 ≤ plc c)) = false := by
    rw [List.all_eq_false]
    exact ⟨c, hc, by simp; omega⟩
  rw [e4]
  simp
theorem ValidSum_eq (s : List UInt8) (hs : s.length ≤ 2 ^ 30) (σ) : ev 27 [.str s] σ = some (.bool (sumB s), σ) := by
  have hP := CutPrefix_eq s [104, 49, 58] (by omega) (by simp)
  refine EV_post rfl Tryz.func27 rfl (by simp [Tryz.ntmps27]) (by kernel_rfl) (by kernel_rfl) ?_
  by_cases c1 : ([104, 49, 58] : List UInt8).isPrefixOf s = true
  · obtain ⟨x, rfl⟩ := List.isPrefixOf_iff_prefix.1 c1
    have hd : (([104, 49, 58] : List UInt8) ++ x).drop ([104, 49, 58] : List UInt8).length = x := by simp
    rw [c1, if_pos rfl, hd] at hP
    have hS := CutSuffix_eq x [61] (by simp at hs; omega) (by simp)
    by_cases c2 : [61] <:+ x
    · obtain ⟨y, rfl⟩ := c2
      have ht : (y ++ [61]).take ((y ++ [61]).length - ([61] : List UInt8).length) = y := by simp
      rw [if_pos ⟨y, rfl⟩, ht, decide_eq_true ⟨y, rfl⟩] at hS
      by_cases c3 : y.length = 43
      · obtain ⟨X, hX⟩ : ∃ X, ([104, 49, 58] : List UInt8) ++ (y ++ [61]) = X := ⟨_, rfl⟩
        have h1 := sumB_of c3
        have h2 := fun h => sumB_bad (y := y) h c3
        rw [hX] at hP h1 h2 ⊢
        obtain ⟨Y, hY⟩ : ∃ Y, y ++ [61] = Y := ⟨_, rfl⟩
        rw [hY] at hP hS
        clear hX hd hY ht c1
        simp (maxSteps := 4000000) [List.getElem?_cons_zero, List.getElem?_cons_succ, hP, hS, c3]
        refine Post_loop (I := fun q : Int × Nat => ⟨[(3, .str y), (6, .int .i64 q.1), (7, .int .i64 q.2)], [], σ⟩) (Pr := fun q => q.2 ≤ 43 ∧ (∀ c ∈ y.take q.2, 0 ≤ plc c) ∧ 0 ≤ q.1 ∧ (0 < q.2 → plc (y.getD (q.2 - 1) 0) = q.1)) (μ := fun q => 43 - q.2) (a := (0, 0)) (by simp) (by simp) ?_
        rintro ⟨l, i⟩ ⟨q1, q2, q3, q4⟩
        simp only at q1 q2 q3 q4 ⊢
        have w1 : IntKind.i64.wrap ((i : Int) + 1) = (i : Int) + 1 := wrap64 (by omega)
        by_cases hc : i < 43
        · obtain ⟨c, hx⟩ : ∃ c, y[i]? = some c := ⟨_, List.getElem?_eq_getElem (by omega)⟩
          have hI := fun σ => IndexByte_eq [65, 66, 67, 68, 69, 70, 71, 72, 73, 74, 75, 76, 77, 78, 79, 80, 81, 82, 83, 84, 85, 86, 87, 88, 89, 90, 97, 98, 99, 100, 101, 102, 103, 104, 105, 106, 107, 108, 109, 110, 111, 112, 113, 114, 115, 116, 117, 118, 119, 120, 121, 122, 48, 49, 50, 51, 52, 53, 54, 55, 56, 57, 43, 47] c σ
          simp only [ix_plc'] at hI
          by_cases hn : plc c < 0
          · have hb := h2 ⟨c, List.mem_of_getElem? hx, hn⟩
            simp (maxSteps := 4000000) [List.getElem?_cons_zero, List.getElem?_cons_succ, -getElem?_pos, c3, hc, hx, hI, hn, hb, Tryz.results27]
          · simp (maxSteps := 4000000) [List.getElem?_cons_zero, List.getElem?_cons_succ, -getElem?_pos, -Prod.exists, c3, hc, hx, hI, hn, w1]
            refine ⟨(plc c, i + 1), ⟨by omega, fun e he => ?_, by omega, fun _ => by simp [List.getD, hx]⟩, by omega, by simp⟩
            rw [List.take_add_one, hx] at he
            rcases List.mem_append.1 he with he | he
            · exact q2 e he
            · simp at he; subst he; omega
        · obtain rfl : i = 43 := by omega
          rw [List.take_of_length_le (by omega)] at q2
          have h1 := h1 q2
          have h4 := q4 (by omega)
          have hm : sumB X = decide (l.tmod 4 = 0) := by rw [h1, Int.tmod_eq_emod_of_nonneg q3, ← h4]
          simp (maxSteps := 4000000) [List.getElem?_cons_zero, List.getElem?_cons_succ, c3, hm, Tryz.results27]
      · have hf : sumB ([104, 49, 58] ++ (y ++ [61])) = false := by
          rw [Bool.eq_false_iff]; intro h; have := sumB_len h; simp at this; omega
        obtain ⟨X, hX⟩ : ∃ X, ([104, 49, 58] : List UInt8) ++ (y ++ [61]) = X := ⟨_, rfl⟩
        rw [hX] at hP hf ⊢
        obtain ⟨Y, hY⟩ : ∃ Y, y ++ [61] = Y := ⟨_, rfl⟩
        rw [hY] at hP hS
        simp (maxSteps := 4000000) [List.getElem?_cons_zero, List.getElem?_cons_succ, hP, hS, c3, hf, Tryz.results27]
    · rw [if_neg c2, decide_eq_false c2] at hS
      have hf : sumB ([104, 49, 58] ++ x) = false := by
        rw [Bool.eq_false_iff]; intro h
        have h3 : (([104, 49, 58] : List UInt8) ++ x).drop 46 = [61] := by
          unfold sumB at h
          simp only [Bool.and_eq_true, beq_iff_eq] at h
          exact h.1.1.2
        apply c2
        refine ⟨x.take 43, ?_⟩
        have : x.drop 43 = [61] := by simpa [List.drop_append] using h3
        rw [← this, List.take_append_drop]
      obtain ⟨X, hX⟩ : ∃ X, ([104, 49, 58] : List UInt8) ++ x = X := ⟨_, rfl⟩
      rw [hX] at hP hf ⊢
      simp (maxSteps := 4000000) [List.getElem?_cons_zero, List.getElem?_cons_succ, hP, hS, hf, Tryz.results27]
  · have hf : sumB s = false := by
      rw [Bool.eq_false_iff]; intro h
      obtain ⟨b, _, rfl⟩ := (sumB_iff s).1 h
      exact c1 (List.isPrefixOf_iff_prefix.2 ⟨_, rfl⟩)
    have c1' : ([104, 49, 58] : List UInt8).isPrefixOf s = false := Bool.eq_false_iff.2 c1
    rw [c1'] at hP
    have hS := CutSuffix_eq s [61] (by omega) (by simp)
    obtain ⟨z, hz⟩ : ∃ z, (if [61] <:+ s then s.take (s.length - ([61] : List UInt8).length) else s) = z := ⟨_, rfl⟩
    obtain ⟨b, hb⟩ : ∃ b, decide ([61] <:+ s) = b := ⟨_, rfl⟩
    rw [hz, hb] at hS
    simp only [Bool.false_eq_true, if_false] at hP
    simp (maxSteps := 4000000) [List.getElem?_cons_zero, List.getElem?_cons_succ, hP, hS, hf, Tryz.results27]
/-- a line's error, with those ahead of it -/
def checkL (l : List Ln) (x : Ln) : Int := if checkB x.1.1 x.1.2 ≠ 0 then (checkB x.1.1 x.1.2 : Int) else if sumB x.2.2 = false then 16 else if l.any (isLn x.1 x.2.1) then 12 else 0
def lnQ (x : Ln) : Prop := x.1.1.length ≤ 2 ^ 29 ∧ x.1.2.length ≤ 2 ^ 29 ∧ x.2.2.length ≤ 2 ^ 29
theorem check_eq (l : List Ln) (hl : l.length ≤ 2 ^ 29) (x : Ln) (hx : lnQ x) (σ) : ev 55 [.sl .sh (l.map lnF), lnF x] σ = some (.int .i64 (checkL l x), σ) := by
  have h1 := fun σ b d sh sh' hb hd => ContainsFuncL_eq l (by omega) 87 (by decide) [.gp b 0 sh, .gp d 0 sh'] (by simp [args, arg, dem]) (isLn x.1 x.2.1) σ (fun y _ => of1_eq x.1 x.2.1 b d sh sh' y σ hb hd)
  have h2 := of_eq x.1 x.2.1
  have h5 := Check_eq x.1.1 x.1.2 (by have := hx.1; omega) (by have := hx.2.1; omega)
  have h6 := ValidSum_eq x.2.2 (by have := hx.2.2; omega)
  have h7 := fun a b c => sfirst_eq [a, b, c] (by simp)
  have hA : checkL l x = fstE [(checkB x.1.1 x.1.2 : Int), if (!sumB x.2.2) = true then 16 else 0, if l.any (isLn x.1 x.2.1) = true then 12 else 0] := by
    unfold checkL fstE
    cases sumB x.2.2 <;> cases l.any (isLn x.1 x.2.1) <;> by_cases h : checkB x.1.1 x.1.2 = 0 <;> simp [orI, h]
  rw [hA]
  obtain ⟨⟨x1, x2⟩, x3, x4⟩ := x
  simp only at h1 h2 h5 h6 ⊢
  have h3 : ∀ σ : List (List AV), ev 94 [.sl .sh (l.map lnF), .fn 87 [.gp σ.length 0 (some (24, 2)), .gp (σ.length + 1) 0 (some (3, 1))]] (σ ++ [[.str x1, .str x2], [.int .i64 x3]]) = some (.bool (l.any (isLn (x1, x2) x3)), σ ++ [[.str x1, .str x2], [.int .i64 x3]]) := fun σ => h1 _ _ _ _ _ (by simp) (by simp)
  clear h1
  have hW := fun b e => when_eq b e
  obtain ⟨E, hE⟩ : ∃ E : Int, (checkB x1 x2 : Int) = E := ⟨_, rfl⟩
  obtain ⟨b1, hb1⟩ : ∃ b, sumB x4 = b := ⟨_, rfl⟩
  obtain ⟨b2, hb2⟩ : ∃ b, l.any (isLn (x1, x2) x3) = b := ⟨_, rfl⟩
  rw [hE] at h5 ⊢
  rw [hb1] at h6 ⊢
  rw [hb2] at h3 ⊢
  simp only [List.map_cons, List.map_nil] at h7
  rw [lnFx]
  obtain ⟨L, hL⟩ : ∃ L, l.map lnF = L := ⟨_, rfl⟩
  rw [hL] at h3 ⊢
  refine EV_post rfl Tryz.func55 rfl (by simp [Tryz.ntmps55]) (by kernel_rfl) (by kernel_rfl) ?_
  simp (maxSteps := 4000000) [List.getElem?_cons_zero, List.getElem?_cons_succ, -regionA_true]
  refine Post_bndD [] _ (by rfl) (by simp (maxSteps := 4000000) [List.getElem?_cons_zero, List.getElem?_cons_succ, ]; exact rfl) ?_
  repeat (first
    | refine PostD_go _ (by rfl) (by rfl) (by simp (maxSteps := 4000000) [List.getElem?_cons_zero, List.getElem?_cons_succ, -getElem?_pos, h2, h3, h5, h6, hW, h7]; exact rfl) (by first | exact .inl rfl | exact .inr rfl) (by rfl) ?_
    | refine PostD_no1 _ (by rfl) (by rfl) (by simp (maxSteps := 4000000) [List.getElem?_cons_zero, List.getElem?_cons_succ, ]; exact rfl) ?_)
  refine PostD_end ?_
  simp (maxSteps := 4000000) [List.getElem?_cons_zero, List.getElem?_cons_succ, Tryz.results55]
end Go.Proofs.Tryz.Ai
end
section
/- sumfile: a line is read; a text is read line by line. -/
namespace Go.Proofs.Tryz.Ai
open Go Go.AI Go.Proofs Go.B64
set_option maxHeartbeats 8000000
set_option maxRecDepth 4000
set_option linter.unusedVariables false

def goMod : List UInt8 := [47, 103, 111, 46, 109, 111, 100]
def mkLn (p v h : List UInt8) : Ln := if goMod <:+ v then ((p, v.take (v.length - 7)), 1, h) else ((p, v), 0, h)
def lineR (l : List Ln) (s : List UInt8) : List Ln × Int := match splitB 32 s with
  | [p, v, h] => if p = [] ∨ v = [] ∨ h = [] then ([], 11) else (l ++ [mkLn p v h], checkL l (mkLn p v h))
  | _ => ([], 11)
theorem lineR_not {l : List Ln} {s : List UInt8} (h : (splitB 32 s).length ≠ 3) : lineR l s = ([], 11) := by
  unfold lineR
  split
  · rename_i h2; rw [h2] at h; exact absurd rfl h
  · rfl
theorem line_eq (l : List Ln) (hl : l.length ≤ 2 ^ 28) (s : List UInt8) (hs : s.length ≤ 2 ^ 28) (σ) :
    ev 51 [.sl (.ex 42 4) (l.map lnF), .str s] σ = some (.tup [.sl (.ex 42 4) ((lineR l s).1.map lnF), .int .i64 (lineR l s).2], σ) := by
  have hS := Split1_eq s (by omega) 32
  have hm := fun x (hx : x ∈ splitB 32 s) => splitB_le hx
  have hml := splitB_many 32 s
  have hR := lineR_not (l := l) (s := s)
  by_cases h3 : (splitB 32 s).length = 3
  · obtain ⟨p, v, h, hW⟩ : ∃ p v h, splitB 32 s = [p, v, h] := by
      match hq : splitB 32 s, h3 with
      | [p, v, h], _ => exact ⟨p, v, h, rfl⟩
    have hR2 : lineR l s = if p = [] ∨ v = [] ∨ h = [] then ([], 11) else (l ++ [mkLn p v h], checkL l (mkLn p v h)) := by unfold lineR; rw [hW]
    rw [hW] at hS hm
    have hC := ContainsT_eq [p, v, h] (by simp) []
    simp only [List.map_cons, List.map_nil] at hS hC
    by_cases he : p = [] ∨ v = [] ∨ h = []
    · rw [if_pos he] at hR2
      have ha : [p, v, h].any (([] : List UInt8) == ·) = true := by
        rcases he with rfl | rfl | rfl <;> simp
      rw [ha] at hC
      refine EV_post rfl Tryz.func51 rfl (by simp [Tryz.ntmps51]) (by kernel_rfl) (by kernel_rfl) ?_
      simp (maxSteps := 4000000) [List.getElem?_cons_zero, List.getElem?_cons_succ, hS, hC, hR2, Tryz.results51]
    · rw [if_neg he] at hR2
      have ha : [p, v, h].any (([] : List UInt8) == ·) = false := by
        simp only [not_or] at he
        have e1 : (([] : List UInt8) == p) = false := by rw [beq_eq_false_iff_ne]; exact fun e => he.1 e.symm
        have e2 : (([] : List UInt8) == v) = false := by rw [beq_eq_false_iff_ne]; exact fun e => he.2.1 e.symm
        have e3 : (([] : List UInt8) == h) = false := by rw [beq_eq_false_iff_ne]; exact fun e => he.2.2 e.symm
        simp only [List.any_cons, List.any_nil, e1, e2, e3, Bool.or_false]
      rw [ha] at hC
      have hv := hm v (by simp)
      have hX := CutSuffix_eq v [47, 103, 111, 46, 109, 111, 100] (by omega) (by simp)
      have hlm : l.length + 1 ≤ most := by unfold most; omega
      by_cases hg : goMod <:+ v
      · have hmk : mkLn p v h = ((p, v.take (v.length - 7)), 1, h) := by unfold mkLn; rw [if_pos hg]
        have hg' : [47, 103, 111, 46, 109, 111, 100] <:+ v := hg
        rw [if_pos hg', decide_eq_true hg'] at hX
        have hck := check_eq l (by omega) (mkLn p v h) (by rw [hmk]; exact ⟨by have := hm p (by simp); simp; omega, by simp; omega, by have := hm h (by simp); simp; omega⟩)
        rw [hmk] at hck hR2
        obtain ⟨V, hV⟩ : ∃ V, v.take (v.length - 7) = V := ⟨_, rfl⟩
        have hV' : v.take (v.length - ([47, 103, 111, 46, 109, 111, 100] : List UInt8).length) = V := hV
        rw [hV'] at hX
        rw [hV] at hck hR2
        obtain ⟨E, hE⟩ : ∃ E, checkL l ((p, V), 1, h) = E := ⟨_, rfl⟩
        rw [hE] at hck hR2
        rw [hR2]
        clear hR2 hR hV hV' hE hmk ha
        rw [lnFx] at hck
        obtain ⟨L, hL⟩ : ∃ L, l.map lnF = L := ⟨_, rfl⟩
        have hLl : L.length = l.length := by rw [← hL]; simp
        have hall : allCells 4 L := by rw [← hL]; simp
        have hfin : (l ++ [((p, V), (1 : Int), h)]).map lnF = L ++ [.agg [.str p, .str V, .int .i64 1, .str h]] := by rw [List.map_append, hL]; rfl
        rw [← hLl] at hlm
        simp only [hfin]
        rw [hL] at hck ⊢
        refine EV_post rfl Tryz.func51 rfl (by simp [Tryz.ntmps51]) (by kernel_rfl) (by kernel_rfl) ?_
        simp (maxSteps := 4000000) [List.getElem?_cons_zero, List.getElem?_cons_succ, -regionA_true, hS, hC, hX]
        refine Post_bndD [9] _ (by rfl) (by simp (maxSteps := 4000000) [List.getElem?_cons_zero, List.getElem?_cons_succ, ]; exact rfl) ?_
        repeat (first
          | refine PostD_go _ (by rfl) (by rfl) (by simp (maxSteps := 4000000) [List.getElem?_cons_zero, List.getElem?_cons_succ, ]; exact rfl) (by first | exact .inl rfl | exact .inr rfl) (by rfl) ?_
          | refine PostD_no1 _ (by rfl) (by rfl) (by simp (maxSteps := 4000000) [List.getElem?_cons_zero, List.getElem?_cons_succ, ]; exact rfl) ?_)
        refine PostD_end ?_
        simp (maxSteps := 4000000) [List.getElem?_cons_zero, List.getElem?_cons_succ, -regionA_true]
        refine Post_bndD [] _ (by rfl) (by simp (maxSteps := 4000000) [List.getElem?_cons_zero, List.getElem?_cons_succ, ]; exact rfl) ?_
        repeat (first
          | refine PostD_go _ (by rfl) (by rfl) (by simp (maxSteps := 4000000) [List.getElem?_cons_zero, List.getElem?_cons_succ, hck, hlm, hall]; exact rfl) (by first | exact .inl rfl | exact .inr rfl) (by rfl) ?_
          | refine PostD_no1 _ (by rfl) (by rfl) (by simp (maxSteps := 4000000) [List.getElem?_cons_zero, List.getElem?_cons_succ, ]; exact rfl) ?_)
        refine PostD_end ?_
        simp (maxSteps := 4000000) [List.getElem?_cons_zero, List.getElem?_cons_succ, Tryz.results51]
      · have hmk : mkLn p v h = ((p, v), 0, h) := by unfold mkLn; rw [if_neg hg]
        have hg' : ¬ [47, 103, 111, 46, 109, 111, 100] <:+ v := hg
        rw [if_neg hg', decide_eq_false hg'] at hX
        have hck := check_eq l (by omega) (mkLn p v h) (by rw [hmk]; exact ⟨by have := hm p (by simp); simp; omega, by simp; omega, by have := hm h (by simp); simp; omega⟩)
        rw [hmk] at hck hR2
        obtain ⟨E, hE⟩ : ∃ E, checkL l ((p, v), 0, h) = E := ⟨_, rfl⟩
        rw [hE] at hck hR2
        rw [hR2]
        clear hR2 hR hE hmk ha
        rw [lnFx] at hck
        obtain ⟨L, hL⟩ : ∃ L, l.map lnF = L := ⟨_, rfl⟩
        have hLl : L.length = l.length := by rw [← hL]; simp
        have hall : allCells 4 L := by rw [← hL]; simp
        have hfin : (l ++ [((p, v), (0 : Int), h)]).map lnF = L ++ [.agg [.str p, .str v, .int .i64 0, .str h]] := by rw [List.map_append, hL]; rfl
        rw [← hLl] at hlm
        simp only [hfin]
        rw [hL] at hck ⊢
        refine EV_post rfl Tryz.func51 rfl (by simp [Tryz.ntmps51]) (by kernel_rfl) (by kernel_rfl) ?_
        simp (maxSteps := 4000000) [List.getElem?_cons_zero, List.getElem?_cons_succ, -regionA_true, hS, hC, hX]
        refine Post_bndD [9] _ (by rfl) (by simp (maxSteps := 4000000) [List.getElem?_cons_zero, List.getElem?_cons_succ, ]; exact rfl) ?_
        repeat (first
          | refine PostD_go _ (by rfl) (by rfl) (by simp (maxSteps := 4000000) [List.getElem?_cons_zero, List.getElem?_cons_succ, ]; exact rfl) (by first | exact .inl rfl | exact .inr rfl) (by rfl) ?_
          | refine PostD_no1 _ (by rfl) (by rfl) (by simp (maxSteps := 4000000) [List.getElem?_cons_zero, List.getElem?_cons_succ, ]; exact rfl) ?_)
        refine PostD_end ?_
        simp (maxSteps := 4000000) [List.getElem?_cons_zero, List.getElem?_cons_succ, -regionA_true]
        refine Post_bndD [] _ (by rfl) (by simp (maxSteps := 4000000) [List.getElem?_cons_zero, List.getElem?_cons_succ, ]; exact rfl) ?_
        repeat (first
          | refine PostD_go _ (by rfl) (by rfl) (by simp (maxSteps := 4000000) [List.getElem?_cons_zero, List.getElem?_cons_succ, hck, hlm, hall]; exact rfl) (by first | exact .inl rfl | exact .inr rfl) (by rfl) ?_
          | refine PostD_no1 _ (by rfl) (by rfl) (by simp (maxSteps := 4000000) [List.getElem?_cons_zero, List.getElem?_cons_succ, ]; exact rfl) ?_)
        refine PostD_end ?_
        simp (maxSteps := 4000000) [List.getElem?_cons_zero, List.getElem?_cons_succ, Tryz.results51]
  · rw [hR h3]
    have hWl : ¬ (((splitB 32 s).length : Nat) : Int) = 3 := by omega
    obtain ⟨W, hW⟩ : ∃ W, splitB 32 s = W := ⟨_, rfl⟩
    rw [hW] at hS hWl h3
    refine EV_post rfl Tryz.func51 rfl (by simp [Tryz.ntmps51]) (by kernel_rfl) (by kernel_rfl) ?_
    simp (maxSteps := 4000000) [List.getElem?_cons_zero, List.getElem?_cons_succ, hS, hWl, h3, Tryz.results51]
end Go.Proofs.Tryz.Ai
end
section
/- sumfile: a text is read line by line. -/
namespace Go.Proofs.Tryz.Ai
open Go Go.AI Go.Proofs Go.B64
set_option maxHeartbeats 8000000
set_option maxRecDepth 4000
set_option linter.unusedVariables false

def linesAV (r : List Ln ⊕ (Nat × Int)) : AV := match r with
  | .inl l => .tup [.sl .sh (l.map lnF), .int .i64 0, .int .i64 0]
  | .inr (n, e) => .tup [.sl .sh [], .int .i64 n, .int .i64 e]
theorem lines_eq (text : List UInt8) (hs : text.length ≤ 2 ^ 27) (g : FuncId) (hg : g < 100000) (cap : List AV) (read : List Ln → List UInt8 → List Ln × Int)
    (hlen : ∀ l s, (read l s).1.length ≤ l.length + 1)
    (h : ∀ (l : List Ln) (s : List UInt8) (σ : List (List AV)), l.length ≤ 2 ^ 28 → s.length ≤ 2 ^ 28 → ev g (.sl (.ex 42 4) (l.map lnF) :: .str s :: cap) σ = some (.tup [.sl (.ex 42 4) ((read l s).1.map lnF), .int .i64 (read l s).2], σ)) (σ : List (List AV)) :
    ev 50 [.str text, .fn g cap] σ = some (if 65536 < text.length then .tup [.sl .sh [], .int .i64 0, .int .i64 13] else linesAV (linesP read [] 0 (splitB 10 text)), σ) := by
  refine EV_post rfl Tryz.func50 rfl (by simp [Tryz.ntmps50]) (by kernel_rfl) (by kernel_rfl) ?_
  by_cases hc : 65536 < text.length
  · rw [if_pos hc]
    simp (maxSteps := 4000000) [List.getElem?_cons_zero, List.getElem?_cons_succ, hc, Tryz.results50]
  rw [if_neg hc]
  obtain ⟨R, hR⟩ : ∃ R, linesP read [] 0 (splitB 10 text) = R := ⟨_, rfl⟩
  rw [hR]
  simp (maxSteps := 4000000) [List.getElem?_cons_zero, List.getElem?_cons_succ, hc]
  refine Post_loop (I := fun q : List Ln × Nat × List UInt8 => ⟨[(1, .fn g cap), (7, .sl (.ex 42 4) (q.1.map lnF)), (8, .int .i64 q.2.1), (9, .str q.2.2)], [], σ⟩)
    (Pr := fun q => q.1.length ≤ q.2.1 ∧ q.2.1 + q.2.2.length ≤ text.length ∧ linesP read q.1 q.2.1 (splitB 10 q.2.2) = R) (μ := fun q => q.2.2.length) (a := ([], 0, text)) (by simp) ⟨by simp, by simp, hR⟩ ?_
  rintro ⟨l, n, rest⟩ ⟨h1, h2, h3⟩
  simp only at h1 h2 h3 ⊢
  by_cases hr : rest = []
  · subst hr
    have : R = .inl l := by rw [← h3]; rfl
    have hA : linesAV R = .tup [.sl .sh (l.map lnF), .int .i64 0, .int .i64 0] := by rw [this]; rfl
    simp (maxSteps := 4000000) [List.getElem?_cons_zero, List.getElem?_cons_succ, hA, Tryz.results50]
  · have hrn : (rest == []) = false := by simpa using hr
    have w1 : IntKind.i64.wrap ((n : Int) + 1) = ((n + 1 : Nat) : Int) := by rw [wrap64 (by omega)]; omega
    have hC := Cut1_eq rest (by omega) 10
    have hW := fun b e => when_eq b e
    have hF := fun a b => sfirst_eq [a, b] (by simp)
    simp only [List.map_cons, List.map_nil] at hF
    cases hi : ix 10 rest with
    | none =>
      have hcut : cutB 10 rest = (rest, [], false) := by unfold cutB; rw [hi]
      rw [hcut] at hC
      rw [splitB_none hi] at h3
      have hv := h l rest
      have hv := fun σ => hv σ (by omega) (by omega)
      obtain ⟨l', hl'⟩ : ∃ l', (read l rest).1 = l' := ⟨_, rfl⟩
      obtain ⟨e, he⟩ : ∃ e, (read l rest).2 = e := ⟨_, rfl⟩
      rw [hl', he] at hv
      by_cases he0 : e = 0
      · have : R = .inr (n + 1, 11) := by rw [← h3, linesP_end hr (by rw [he, he0])]
        have hA : linesAV R = .tup [.sl .sh [], .int .i64 ((n + 1 : Nat) : Int), .int .i64 11] := by rw [this]; rfl
        have hf : fstE [e, 11] = 11 := by rw [he0]; rfl
        simp (maxSteps := 4000000) [List.getElem?_cons_zero, List.getElem?_cons_succ, -Prod.forall, hrn, hC, hg, hv, hW, hF, hf, w1, hA, Tryz.results50]
      · have : R = .inr (n + 1, e) := by rw [← h3, linesP_bad (.inl hr) (by rw [he]; exact he0), he]
        have hA : linesAV R = .tup [.sl .sh [], .int .i64 ((n + 1 : Nat) : Int), .int .i64 e] := by rw [this]; rfl
        have hf : fstE [e, 11] = e := by simp [fstE, orI, he0]
        simp (maxSteps := 4000000) [List.getElem?_cons_zero, List.getElem?_cons_succ, -Prod.forall, hrn, hC, hg, hv, hW, hF, hf, he0, w1, hA, Tryz.results50]
    | some k =>
      have hcut : cutB 10 rest = (rest.take k, rest.drop (k + 1), true) := by unfold cutB; rw [hi]
      rw [hcut] at hC
      rw [splitB_ix hi] at h3
      have hk := (ix_some hi).1
      obtain ⟨s, hs1⟩ : ∃ s, rest.take k = s := ⟨_, rfl⟩
      obtain ⟨b, hb⟩ : ∃ b, rest.drop (k + 1) = b := ⟨_, rfl⟩
      have hsl : s.length ≤ rest.length := by rw [← hs1]; simp; omega
      have hbl : b.length + 1 ≤ rest.length := by rw [← hb]; simp; omega
      rw [hs1, hb] at hC h3
      have hv := h l s
      have hv := fun σ => hv σ (by omega) (by omega)
      have hln := hlen l s
      obtain ⟨l', hl'⟩ : ∃ l', (read l s).1 = l' := ⟨_, rfl⟩
      obtain ⟨e, he⟩ : ∃ e, (read l s).2 = e := ⟨_, rfl⟩
      rw [hl', he] at hv
      rw [hl'] at hln
      have hne := splitB_ne 10 b
      by_cases he0 : e = 0
      · have h3 : linesP read l' (n + 1) (splitB 10 b) = R := by rw [← h3, linesP_next hne (by rw [he, he0]), hl']
        have hf : fstE [e, 0] = 0 := by rw [he0]; rfl
        simp (maxSteps := 4000000) [List.getElem?_cons_zero, List.getElem?_cons_succ, -Prod.forall, -Prod.exists, hrn, hC, hg, hv, hW, hF, hf, w1]
        exact ⟨(l', n + 1, b), ⟨by simp; omega, by simp; omega, h3⟩, by simp; omega, by simp⟩
      · have : R = .inr (n + 1, e) := by rw [← h3, linesP_bad (.inr hne) (by rw [he]; exact he0), he]
        have hA : linesAV R = .tup [.sl .sh [], .int .i64 ((n + 1 : Nat) : Int), .int .i64 e] := by rw [this]; rfl
        have hf : fstE [e, 0] = e := by simp [fstE, orI, he0]
        simp (maxSteps := 4000000) [List.getElem?_cons_zero, List.getElem?_cons_succ, -Prod.forall, hrn, hC, hg, hv, hW, hF, hf, he0, w1, hA, Tryz.results50]
end Go.Proofs.Tryz.Ai
end
section
/- The document's order of versions. -/
namespace Go.Proofs.Tryz.Ai
open Go Go.AI Go.Proofs
set_option maxHeartbeats 2000000
set_option linter.unusedVariables false

theorem rtexts_eq (a b : List UInt8) (σ) : ev 194 [.str a, .str b] σ = some (.int .i64 (bytesC a b), σ) := by
  refine EV_post rfl Tryz.func194 rfl (by simp [Tryz.ntmps194]) (by kernel_rfl) (by kernel_rfl) ?_
  have h1 := Go.AI.bytesLess_eq a b
  have ht := TO.bytes
  rcases ht.sgn a b with h | h | h
  · have hb : Op.bytesLess a b = true := by rw [h1, h]; rfl
    simp (maxSteps := 4000000) [List.getElem?_cons_zero, List.getElem?_cons_succ, hb, h, Tryz.results194]
  · have hab := ht.eq _ _ h
    have hb : Op.bytesLess a b = false := by rw [h1, h]; rfl
    rw [h]
    subst hab
    simp (maxSteps := 4000000) [List.getElem?_cons_zero, List.getElem?_cons_succ, hb, Tryz.results194]
  · have hb : Op.bytesLess a b = false := by rw [h1, h]; rfl
    have hab : (a == b) = false := by
      rw [beq_eq_false_iff_ne]; intro e; subst e
      rw [ht.refl] at h; cases h
    have hab2 : ¬ a = b := by simpa using hab
    simp (maxSteps := 4000000) [List.getElem?_cons_zero, List.getElem?_cons_succ, hb, hab, hab2, h, Tryz.results194]
theorem rorder_eq (a b : Nat) (σ) : ev 195 [.int .i64 a, .int .i64 b] σ = some (.int .i64 (natC a b), σ) := by
  refine EV_post rfl Tryz.func195 rfl (by simp [Tryz.ntmps195]) (by kernel_rfl) (by kernel_rfl) ?_
  unfold natC
  by_cases h : a < b
  · simp (maxSteps := 4000000) [List.getElem?_cons_zero, List.getElem?_cons_succ, h, Tryz.results195]
  · by_cases h2 : b < a
    · simp (maxSteps := 4000000) [List.getElem?_cons_zero, List.getElem?_cons_succ, h, h2, Tryz.results195]
    · simp (maxSteps := 4000000) [List.getElem?_cons_zero, List.getElem?_cons_succ, h, h2, Tryz.results195]
theorem rids_eq (a b : List UInt8) (ha : a.length ≤ 2 ^ 30) (hb : b.length ≤ 2 ^ 30) (σ) : ev 197 [.str a, .str b] σ = some (.int .i64 (idC a b), σ) := by
  have h1 := rdigits_eq a (by omega)
  have h2 := rdigits_eq b (by omega)
  have h3 := rtexts_eq a b
  have h4 := rorder_eq a.length b.length
  refine EV_post rfl Tryz.func197 rfl (by simp [Tryz.ntmps197]) (by kernel_rfl) (by kernel_rfl) ?_
  have hI : idC a b = if allB isD a = true then (if allB isD b = true then orI (natC a.length b.length) (bytesC a b) else -1) else if allB isD b = true then 1 else bytesC a b := rfl
  cases e1 : allB isD a <;> cases e2 : allB isD b <;> rw [e1] at h1 hI <;> rw [e2] at h2 hI
  · simp at hI
    simp (maxSteps := 4000000) [List.getElem?_cons_zero, List.getElem?_cons_succ, h1, h2, h3, hI, Tryz.results197]
  · simp at hI
    simp (maxSteps := 4000000) [List.getElem?_cons_zero, List.getElem?_cons_succ, h1, h2, hI, Tryz.results197]
  · simp at hI
    simp (maxSteps := 4000000) [List.getElem?_cons_zero, List.getElem?_cons_succ, h1, h2, hI, Tryz.results197]
  · simp only [if_true] at hI
    by_cases hl : a.length = b.length
    · have : orI (natC a.length b.length) (bytesC a b) = bytesC a b := by rw [hl]; simp [orI, natC]
      rw [this] at hI
      simp (maxSteps := 4000000) [List.getElem?_cons_zero, List.getElem?_cons_succ, h1, h2, h3, hl, hI, Tryz.results197]
    · have : orI (natC a.length b.length) (bytesC a b) = natC a.length b.length := by
        unfold orI natC; rcases Nat.lt_or_ge a.length b.length with q | q
        · simp [q]
        · have q2 : b.length < a.length := by omega
          have q3 : ¬ a.length < b.length := by omega
          simp [q3, q2]
      rw [this] at hI
      simp (maxSteps := 4000000) [List.getElem?_cons_zero, List.getElem?_cons_succ, h1, h2, h4, hl, hI, Tryz.results197]
theorem natC_ne {a b : Nat} (h : ¬ a = b) (y : Int) : orI (natC a b) y = natC a b := by
  have : ¬ natC a b = 0 := by
    unfold natC
    by_cases q : a < b
    · simp [q]
    · have : b < a := by omega
      simp [q, this]
  unfold orI; rw [if_neg this]
theorem natC_same {a : Nat} (y : Int) : orI (natC a a) y = y := by
  have : natC a a = 0 := by simp [natC]
  unfold orI; rw [if_pos this]
theorem rsign_eq (b : Bool) (σ) : ev 196 [.bool b] σ = some (.int .i64 (if b then 0 else 1), σ) := by
  refine EV_post rfl Tryz.func196 rfl (by simp [Tryz.ntmps196]) (by kernel_rfl) (by kernel_rfl) ?_
  cases b <;> simp (maxSteps := 4000000) [List.getElem?_cons_zero, List.getElem?_cons_succ, Tryz.results196]
theorem rCompare_eq (a b : List UInt8) (ha : a.length ≤ 2 ^ 30) (hb : b.length ≤ 2 ^ 30) (σ) : ev 158 [.str a, .str b] σ = some (.int .i64 (cmpB a b), σ) := by
  have pa := rParts_eq a ha
  have pb := rParts_eq b hb
  have ht := rtexts_eq a b
  have w0 : IntKind.i64.wrap (-1) = -1 := by decide
  refine EV_post rfl Tryz.func158 rfl (by simp [Tryz.ntmps158]) (by kernel_rfl) (by kernel_rfl) ?_
  cases e1 : readB a with
  | none =>
    rw [e1] at pa
    cases e2 : readB b with
    | none =>
      rw [e2] at pb
      have hC : cmpB a b = bytesC a b := by unfold cmpB; rw [e1, e2]
      simp (maxSteps := 4000000) [List.getElem?_cons_zero, List.getElem?_cons_succ, pa, pb, rpartsA, ht, hC, Tryz.results158]
    | some y =>
      rw [e2] at pb
      have hC : cmpB a b = -1 := by unfold cmpB; rw [e1, e2]
      simp (maxSteps := 4000000) [List.getElem?_cons_zero, List.getElem?_cons_succ, pa, pb, rpartsA, hC, Tryz.results158]
  | some x =>
    rw [e1] at pa
    cases e2 : readB b with
    | none =>
      rw [e2] at pb
      have hC : cmpB a b = 1 := by unfold cmpB; rw [e1, e2]
      simp (maxSteps := 4000000) [List.getElem?_cons_zero, List.getElem?_cons_succ, pa, pb, rpartsA, hC, Tryz.results158]
    | some y =>
      rw [e2] at pb
      have hC : cmpB a b = orI (natC x.ma y.ma) (orI (natC x.mi y.mi) (orI (natC x.pa y.pa) (presC x.pre y.pre))) := by unfold cmpB; rw [e1, e2]; rfl
      by_cases g1 : x.ma = y.ma
      · rw [g1, natC_same] at hC
        by_cases g2 : x.mi = y.mi
        · rw [g2, natC_same] at hC
          by_cases g3 : x.pa = y.pa
          · rw [g3, natC_same] at hC
            have hpl : x.pre.length ≤ 60 ∧ y.pre.length ≤ 60 := by
              have rx := readB_some e1
              have ry := readB_some e2
              have := congrArg List.length rx.text
              have := congrArg List.length ry.text
              have := rx.len
              have := ry.len
              unfold verT at *
              constructor
              · split at * <;> split at * <;> simp_all <;> omega
              · split at * <;> split at * <;> simp_all <;> omega
            simp only [rpartsA] at pa pb
            generalize x.pre = p at *
            generalize y.pre = q at *
            by_cases g4 : p = [] ∨ q = []
            · have ho := rorder_eq q.length p.length
              cases p with
              | nil =>
                cases q with
                | nil =>
                  have hC : cmpB a b = 0 := by rw [hC]; simp [presC, natC]
                  have s1 : ∀ σ, ev 196 [.bool true] σ = some (.int .i64 0, σ) := rsign_eq true
                  have s2 : IntKind.i64.wrap 0 = 0 := by decide
                  have ho' : ∀ σ, ev 195 [.int .i64 0, .int .i64 0] σ = some (.int .i64 0, σ) := ho
                  simp (maxSteps := 4000000) [List.getElem?_cons_zero, List.getElem?_cons_succ, pa, pb, g1, g2, g3, hC, ho', s1, s2, Tryz.results158]
                | cons c q =>
                  have hC : cmpB a b = 1 := by rw [hC]; simp [presC, natC]
                  have s1 : ∀ σ, ev 196 [.bool false] σ = some (.int .i64 1, σ) := rsign_eq false
                  have s2 : IntKind.i64.wrap 1 = 1 := by decide
                  have ho' : ∀ σ, ev 195 [.int .i64 ((q.length : Int) + 1), .int .i64 0] σ = some (.int .i64 1, σ) := ho
                  simp (maxSteps := 4000000) [List.getElem?_cons_zero, List.getElem?_cons_succ, pa, pb, g1, g2, g3, hC, ho', s1, s2, Tryz.results158]
              | cons c p =>
                have hq : q = [] := by simpa using g4
                subst hq
                have hC : cmpB a b = -1 := by rw [hC]; simp [presC, natC]
                have s1 : ∀ σ, ev 196 [.bool false] σ = some (.int .i64 1, σ) := rsign_eq false
                have s2 : IntKind.i64.wrap (-1) = -1 := by decide
                have ho' : ∀ σ, ev 195 [.int .i64 0, .int .i64 ((p.length : Int) + 1)] σ = some (.int .i64 (-1), σ) := ho
                simp (maxSteps := 4000000) [List.getElem?_cons_zero, List.getElem?_cons_succ, pa, pb, g1, g2, g3, hC, ho', s1, s2, Tryz.results158]
            · have g5 : ¬ p = [] := fun e => g4 (.inl e)
              have g6 : ¬ q = [] := fun e => g4 (.inr e)
              have g5' : p.isEmpty = false := by simpa using g5
              have g6' : q.isEmpty = false := by simpa using g6
              have hC : cmpB a b = lexC idC (splitB 46 p) (splitB 46 q) := by rw [hC]; unfold presC; rw [if_neg g4]
              have hc1 := Cut_eq p (by omega) 46
              have hc2 := Cut_eq q (by omega) 46
              have hc1' : ∀ σ, ev 37 [.str p, .int .u8 46] σ = some (.sl (.ex 9 1) ((splitB 46 p).map .str), σ) := hc1
              have hc2' : ∀ σ, ev 37 [.str q, .int .u8 46] σ = some (.sl (.ex 9 1) ((splitB 46 q).map .str), σ) := hc2
              have hlp : ∀ s ∈ splitB 46 p, s.length ≤ 60 := fun s hs => by have := splitB_le hs; omega
              have hlq : ∀ s ∈ splitB 46 q, s.length ≤ 60 := fun s hs => by have := splitB_le hs; omega
              have hnp : (splitB 46 p).length ≤ 61 := by have := splitB_many 46 p; omega
              have hnq : (splitB 46 q).length ≤ 61 := by have := splitB_many 46 q; omega
              generalize splitB 46 p = l at *
              generalize splitB 46 q = m at *
              simp (maxSteps := 4000000) [List.getElem?_cons_zero, List.getElem?_cons_succ, pa, pb, g1, g2, g3, g5, g6, g5', g6', hc1', hc2']
              refine Post_loop (I := fun i : Nat => ⟨[(15, .sl (.ex 9 1) (l.map .str)), (16, .sl (.ex 9 1) (m.map .str)), (17, .int .i64 i)], [], σ⟩) (Pr := fun i => i ≤ l.length ∧ i ≤ m.length ∧ lexC idC l m = lexC idC (l.drop i) (m.drop i)) (μ := fun i => l.length - i) (a := 0) (by simp) (by simp) ?_
              rintro i ⟨i1, i2, i3⟩
              by_cases k1 : i < l.length
              · by_cases k2 : i < m.length
                · obtain ⟨x', hx⟩ : ∃ z, l[i]? = some z := ⟨_, List.getElem?_eq_getElem k1⟩
                  obtain ⟨y', hy⟩ : ∃ z, m[i]? = some z := ⟨_, List.getElem?_eq_getElem k2⟩
                  have hdl : l.drop i = x' :: l.drop (i + 1) := by rw [List.drop_eq_getElem_cons k1]; congr 1; exact (List.getElem?_eq_some_iff.1 hx).2
                  have hdm : m.drop i = y' :: m.drop (i + 1) := by rw [List.drop_eq_getElem_cons k2]; congr 1; exact (List.getElem?_eq_some_iff.1 hy).2
                  have hi := rids_eq x' y' (by have := hlp x' (List.mem_of_getElem? hx); omega) (by have := hlq y' (List.mem_of_getElem? hy); omega)
                  have w1 : IntKind.i64.wrap ((i : Int) + 1) = (i : Int) + 1 := wrap64 (by omega)
                  rw [hdl, hdm, lexC] at i3
                  by_cases hz : idC x' y' = 0
                  · rw [hz] at i3
                    simp only [orI, if_true] at i3
                    simp (maxSteps := 4000000) [List.getElem?_cons_zero, List.getElem?_cons_succ, -getElem?_pos, k1, k2, hx, hy, hi, hz, w1]
                    exact ⟨i + 1, ⟨by omega, by omega, i3⟩, by omega, by omega⟩
                  · simp only [orI, if_neg hz] at i3
                    simp (maxSteps := 4000000) [List.getElem?_cons_zero, List.getElem?_cons_succ, -getElem?_pos, k1, k2, hx, hy, hi, hz, hC, i3, Tryz.results158]
                · have ho := rorder_eq l.length m.length
                  have e3 : lexC idC l m = natC l.length m.length := by
                    rw [i3, List.drop_of_length_le (show m.length ≤ i by omega), List.drop_eq_getElem_cons k1]
                    have : m.length < l.length := by omega
                    simp [lexC, natC]; omega
                  simp (maxSteps := 4000000) [List.getElem?_cons_zero, List.getElem?_cons_succ, k1, k2, ho, hC, e3, Tryz.results158]
              · have ho := rorder_eq l.length m.length
                have e3 : lexC idC l m = natC l.length m.length := by
                  rw [i3, List.drop_of_length_le (show l.length ≤ i by omega)]
                  by_cases k2 : i < m.length
                  · rw [List.drop_eq_getElem_cons k2]
                    have : l.length < m.length := by omega
                    simp [lexC, natC]; omega
                  · rw [List.drop_of_length_le (show m.length ≤ i by omega)]
                    have : l.length = m.length := by omega
                    simp [lexC, natC, this]
                simp (maxSteps := 4000000) [List.getElem?_cons_zero, List.getElem?_cons_succ, k1, ho, hC, e3, Tryz.results158]
          · rw [natC_ne g3] at hC
            have ho := rorder_eq x.pa y.pa
            simp (maxSteps := 4000000) [List.getElem?_cons_zero, List.getElem?_cons_succ, pa, pb, rpartsA, g1, g2, g3, hC, ho, Tryz.results158]
        · rw [natC_ne g2] at hC
          have ho := rorder_eq x.mi y.mi
          simp (maxSteps := 4000000) [List.getElem?_cons_zero, List.getElem?_cons_succ, pa, pb, rpartsA, g1, g2, hC, ho, Tryz.results158]
      · rw [natC_ne g1] at hC
        have ho := rorder_eq x.ma y.ma
        simp (maxSteps := 4000000) [List.getElem?_cons_zero, List.getElem?_cons_succ, pa, pb, rpartsA, g1, hC, ho, Tryz.results158]
end Go.Proofs.Tryz.Ai
end
section
/- The order of modules. -/
namespace Go.Proofs.Tryz.Ai
open Go Go.AI Go.Proofs
set_option maxHeartbeats 2000000
set_option linter.unusedVariables false

def modA (m : List UInt8 × List UInt8) : AV := .agg [.str m.1, .str m.2]
def modC (a b : List UInt8 × List UInt8) : Int := orI (bytesC a.1 b.1) (cmpB a.2 b.2)
theorem TO.modC : TO modC := TO.bytes.prod TO.cmp
def modQ (m : List UInt8 × List UInt8) : Prop := m.1.length ≤ 2 ^ 30 ∧ m.2.length ≤ 2 ^ 30
theorem order_eqM (a b : List UInt8 × List UInt8) (ha : modQ a) (hb : modQ b) (σ) : ev 129 [.agg [.str a.1, .str a.2], .agg [.str b.1, .str b.2]] σ = some (.int .i64 (modC a b), σ) := by
  have h1 := Compare_eq a.1 b.1
  have h2 := cmpB_eq a.2 b.2 ha.2 hb.2
  have h3 := cmpOr_eq [bytesC a.1 b.1, cmpB a.2 b.2] (by simp)
  have h4 : modC a b = orL [bytesC a.1 b.1, cmpB a.2 b.2] := by
    unfold modC
    simp only [orL, List.foldr, orI]
    split
    · split
      · assumption
      · rfl
    · rfl
  simp only [List.map_cons, List.map_nil] at h3
  refine EV_post rfl Tryz.func129 rfl (by simp [Tryz.ntmps129]) (by kernel_rfl) (by kernel_rfl) ?_
  simp (maxSteps := 4000000) [List.getElem?_cons_zero, List.getElem?_cons_succ, h1, h2, h3, h4, Tryz.results129]
theorem Less_eq (a b : List UInt8 × List UInt8) (ha : modQ a) (hb : modQ b) (σ) : ev 84 [.agg [.str a.1, .str a.2], .agg [.str b.1, .str b.2]] σ = some (.bool (decide (modC a b < 0)), σ) := by
  have h := order_eqM a b ha hb
  refine EV_post rfl Tryz.func84 rfl (by simp [Tryz.ntmps84]) (by kernel_rfl) (by kernel_rfl) ?_
  simp (maxSteps := 4000000) [List.getElem?_cons_zero, List.getElem?_cons_succ, h, Tryz.results84]
theorem rLess_eq (a b : List UInt8 × List UInt8) (ha : modQ a) (hb : modQ b) (σ) : ev 127 [.agg [.str a.1, .str a.2], .agg [.str b.1, .str b.2]] σ = some (.bool (decide (modC a b < 0)), σ) := by
  have h2 := rCompare_eq a.2 b.2 ha.2 hb.2
  have hl := Go.AI.bytesLess_eq a.1 b.1
  refine EV_post rfl Tryz.func127 rfl (by simp [Tryz.ntmps127]) (by kernel_rfl) (by kernel_rfl) ?_
  by_cases h : a.1 = b.1
  · have h0 : (a.1 == b.1) = true := by simpa using h
    have hm : modC a b = cmpB a.2 b.2 := by unfold modC; rw [h, TO.bytes.refl]; simp [orI]
    simp (maxSteps := 4000000) [List.getElem?_cons_zero, List.getElem?_cons_succ, h0, h, h2, hm, Tryz.results127]
  · have h0 : (a.1 == b.1) = false := by simpa using h
    have hm : modC a b = bytesC a.1 b.1 := by unfold modC orI; rw [if_neg (fun e => h (TO.bytes.eq _ _ e))]
    simp (maxSteps := 4000000) [List.getElem?_cons_zero, List.getElem?_cons_succ, h0, h, hl, hm, Tryz.results127]
end Go.Proofs.Tryz.Ai
end
section
/- Sorting a row of texts: exchanges. -/
namespace Go.Proofs.Tryz.Ai
open Go Go.AI Go.Proofs
set_option maxHeartbeats 1000000
set_option linter.unusedVariables false

def es : List UInt8 → List AV := fun x => [.str x]
end Go.Proofs.Tryz.Ai
end
section
/- Sorting a row of texts: insertion, rotation. -/
namespace Go.Proofs.Tryz.Ai
open Go Go.AI Go.Proofs
set_option maxHeartbeats 400000
set_option linter.unusedVariables false

/-- a function that compares -/
structure CmpOk (g : Nat) (c : List UInt8 → List UInt8 → Int) (Q : List UInt8 → Prop) : Prop where
  tp : TP c
  lt : g < 100000
  run : ∀ x y, Q x → Q y → ∀ σ, ev g [.str x, .str y] σ = some (.int .i64 (c x y), σ)
end Go.Proofs.Tryz.Ai
end
section
/- Sorting a row of texts: rotation. -/
namespace Go.Proofs.Tryz.Ai
open Go Go.AI Go.Proofs
set_option maxHeartbeats 400000
set_option linter.unusedVariables false

end Go.Proofs.Tryz.Ai
end
section
/- Sorting a row of texts: merging. -/
namespace Go.Proofs.Tryz.Ai
open Go Go.AI Go.Proofs
set_option maxHeartbeats 400000
set_option linter.unusedVariables false

theorem half_w {i j : Nat} (h : i + j ≤ 2 ^ 31) : IntKind.i64.wrap ((i : Int) + j) = ((i + j : Nat) : Int) ∧ IntKind.u64.wrap (((i + j : Nat) : Int)) = ((i + j : Nat) : Int) ∧ Int.fdiv ((i + j : Nat) : Int) (2 ^ min 1 IntKind.u64.bits) = (((i + j) / 2 : Nat) : Int) ∧ IntKind.i64.wrap (((i + j) / 2 : Nat) : Int) = (((i + j) / 2 : Nat) : Int) := by
  refine ⟨by rw [wrap64 (by omega)]; omega, wrapU64 (by omega), by rw [show ((2 : Int) ^ min 1 IntKind.u64.bits) = 2 from by decide, Int.fdiv_eq_ediv_of_nonneg _ (by omega)]; omega, wrap64 (by omega)⟩
end Go.Proofs.Tryz.Ai
end
section
/- Sorting a row of texts: merging two rows. -/
namespace Go.Proofs.Tryz.Ai
open Go Go.AI Go.Proofs
set_option maxHeartbeats 2000000
set_option linter.unusedVariables false

theorem Post_of_eq {o : Option (Ex × St)} {st2 : St} {K : Ex → St → Prop} (e : o = some (.normal, st2)) (k : K .normal st2) : Post o K := ⟨_, _, e, k⟩
theorem cut_nums {l r a m e N : Nat} (hm : m = a + l) (he : e = m + r) (heN : e ≤ N) (hN : N ≤ 2 ^ 30) (hl : 2 ≤ l) (hr : 2 ≤ r) : ∃ mid nn p0 S0 S1 : Nat,
    (a ≤ S0 ∧ S0 ≤ S1 ∧ S1 ≤ mid ∧ S1 ≤ m ∧ mid ≤ S0 + r ∧ (S0 = a ∨ mid = S0 + r) ∧ (S1 = mid ∨ S1 = m) ∧ nn = mid + m ∧ p0 + 1 = nn ∧ a < mid ∧ mid < e) ∧
    IntKind.i64.wrap ((a : Int) + e) = ((a + e : Nat) : Int) ∧ IntKind.u64.wrap (((a + e : Nat) : Int)) = ((a + e : Nat) : Int) ∧ Int.fdiv ((a + e : Nat) : Int) (2 ^ min 1 IntKind.u64.bits) = (mid : Int) ∧ IntKind.i64.wrap (mid : Int) = (mid : Int) ∧
    IntKind.i64.wrap ((mid : Int) + m) = (nn : Int) ∧ IntKind.i64.wrap ((nn : Int) - 1) = (p0 : Int) ∧ (mid < m → IntKind.i64.wrap ((nn : Int) - e) = (S0 : Int) ∧ S1 = mid) ∧ (¬ mid < m → S0 = a ∧ S1 = m) := by
  have hmw := half_w (i := a) (j := e) (by omega)
  obtain ⟨h1, h2, h3, h4⟩ := hmw
  refine ⟨(a + e) / 2, (a + e) / 2 + m, (a + e) / 2 + m - 1, if (a + e) / 2 < m then (a + e) / 2 + m - e else a, if (a + e) / 2 < m then (a + e) / 2 else m, ?_, h1, h2, h3, h4, ?_, ?_, fun q => ?_, fun q => ?_⟩
  · clear h1 h2 h3 h4
    split <;> omega
  · rw [wrap64 (by omega)]; omega
  · rw [wrap64 (by omega)]; omega
  · rw [if_pos q, if_pos q]; exact ⟨by rw [wrap64 (by omega)]; omega, rfl⟩
  · rw [if_neg q, if_neg q]; exact ⟨rfl, rfl⟩
end Go.Proofs.Tryz.Ai
end
section
/- Sorting a row of texts: all of it. -/
namespace Go.Proofs.Tryz.Ai
open Go Go.AI Go.Proofs
set_option maxHeartbeats 2000000
set_option linter.unusedVariables false

end Go.Proofs.Tryz.Ai
end
section
/- Sorting a row of texts: exchanges. -/
namespace Go.Proofs.Tryz.Ai
open Go Go.AI Go.Proofs
set_option maxHeartbeats 1000000
set_option linter.unusedVariables false

def esL : (List UInt8 × List UInt8) × Int × List UInt8 → List AV := fun x => [.str x.1.1, .str x.1.2, .int .i64 x.2.1, .str x.2.2]
@[simp] theorem es_demL {D : List ((List UInt8 × List UInt8) × Int × List UInt8)} : (rowE esL D).map dem = rowE esL D := by
  induction D with
  | nil => rfl
  | cons a D ih => unfold rowE at *; rw [List.flatMap_cons, List.map_append, ih]; rfl
theorem es_getL {D : List ((List UInt8 × List UInt8) × Int × List UInt8)} {i : Nat} {x : (List UInt8 × List UInt8) × Int × List UInt8} (h : D[i]? = some x) : ((rowE esL D).drop (i * 4)).take 4 = [.str x.1.1, .str x.1.2, .int .i64 x.2.1, .str x.2.2] := by
  have := rowE_get (E := esL) (sz := 4) (fun _ => rfl) (fun _ => rfl) h
  rwa [List.map_take, List.map_drop, es_demL] at this
theorem es_bndL {D : List ((List UInt8 × List UInt8) × Int × List UInt8)} {i : Nat} {x : (List UInt8 × List UInt8) × Int × List UInt8} (h : D[i]? = some x) : i * 4 + 4 ≤ (rowE esL D).length := by
  have := (List.getElem?_eq_some_iff.1 h).1
  rw [rowE_len (E := esL) (sz := 4) (fun _ => rfl) D]; omega
theorem es_setL {D : List ((List UInt8 × List UInt8) × Int × List UInt8)} {i : Nat} {y : (List UInt8 × List UInt8) × Int × List UInt8} (h : i < D.length) : (rowE esL D).take (i * 4) ++ (.str y.1.1 :: .str y.1.2 :: .int .i64 y.2.1 :: .str y.2.2 :: (rowE esL D).drop (i * 4 + 4)) = rowE esL (D.set i y) :=
  rowE_set (E := esL) (sz := 4) (fun _ => rfl) h
theorem es_lenL {D : List ((List UInt8 × List UInt8) × Int × List UInt8)} : (rowE esL D).length = D.length * 4 := rowE_len (E := esL) (sz := 4) (fun _ => rfl) D
theorem swapRange_eqL (b : Nat) (σ : List (List AV)) (D : List ((List UInt8 × List UInt8) × Int × List UInt8)) (x y n g : Nat) (hN : D.length ≤ 2 ^ 30) (hx : x + n ≤ D.length) (hy : y + n ≤ D.length) (hb : b < σ.length) :
    ev 223 [.ms 42 4 b 0 D.length, .int .i64 x, .int .i64 y, .int .i64 n, .fn g []] (σ.set b (rowE esL D)) = some (.tup [], σ.set b (rowE esL (swapN D x y n))) := by
  refine EV_post rfl Tryz.func223 rfl (by simp [Tryz.ntmps223]) (by kernel_rfl) (by kernel_rfl) ?_
  simp (maxSteps := 4000000) [List.getElem?_cons_zero, List.getElem?_cons_succ, -Prod.forall]
  refine Post_loop (I := fun k : Nat => ⟨[(0, .ms 42 4 b 0 D.length), (1, .int .i64 x), (2, .int .i64 y), (3, .int .i64 n), (10, .int .i64 k)], [], σ.set b (rowE esL (swapN D x y k))⟩) (Pr := fun k => k ≤ n) (μ := fun k => n - k) (a := 0) (by simp [swapN]) (by simp) ?_
  intro k hk
  by_cases hc : k < n
  · have hs : swapN D x y (k + 1) = swap2 (swapN D x y k) (x + k) (y + k) := rfl
    obtain ⟨Dk, hDk⟩ : ∃ Dk, swapN D x y k = Dk := ⟨_, rfl⟩
    have hl : Dk.length = D.length := by rw [← hDk]; simp
    rw [hDk] at hs
    obtain ⟨i, hi⟩ : ∃ i, x + k = i := ⟨_, rfl⟩
    obtain ⟨j, hj⟩ : ∃ i, y + k = i := ⟨_, rfl⟩
    rw [hi, hj] at hs
    obtain ⟨u, hu⟩ : ∃ u, Dk[i]? = some u := ⟨_, List.getElem?_eq_getElem (by omega)⟩
    obtain ⟨v, hv⟩ : ∃ u, Dk[j]? = some u := ⟨_, List.getElem?_eq_getElem (by omega)⟩
    rw [swap2_eq hu hv] at hs
    have w1 : IntKind.i64.wrap ((x : Int) + k) = (i : Int) := by rw [wrap64 (by omega)]; omega
    have w2 : IntKind.i64.wrap ((y : Int) + k) = (j : Int) := by rw [wrap64 (by omega)]; omega
    have w3 : IntKind.i64.wrap ((k : Int) + 1) = (k : Int) + 1 := wrap64 (by omega)
    have q1 : i < D.length := by omega
    have q2 : j < D.length := by omega
    have q1' : i * 4 + 4 ≤ (rowE esL Dk).length := by rw [es_lenL]; omega
    have q2' : j * 4 + 4 ≤ (rowE esL (Dk.set i v)).length := by rw [es_lenL]; simp; omega
    have g1 := es_getL hu
    have r1 := es_bndL hu
    have g2 := es_getL hv
    have r2 := es_bndL hv
    have s1 := es_setL (D := Dk) (i := i) (y := v) (by omega)
    have s2 := es_setL (D := Dk.set i v) (i := j) (y := u) (by simp; omega)
    simp (maxSteps := 4000000) [List.getElem?_cons_zero, List.getElem?_cons_succ, -Prod.forall, -getElem?_pos, hc, hDk, w1, w2, w3, q1, q2, q1', q2', g1, g2, r1, r2, s1, s2, hb]
    exact ⟨k + 1, by omega, by omega, by simp [hs]⟩
  · have : k = n := by omega
    subst this
    simp (maxSteps := 4000000) [List.getElem?_cons_zero, List.getElem?_cons_succ, -Prod.forall, hc, Tryz.results223]
end Go.Proofs.Tryz.Ai
end
section
/- Sorting a row of texts: insertion, rotation. -/
namespace Go.Proofs.Tryz.Ai
open Go Go.AI Go.Proofs
set_option maxHeartbeats 400000
set_option linter.unusedVariables false

/-- a function that compares -/
structure CmpOkL (g : Nat) (c : ((List UInt8 × List UInt8) × Int × List UInt8) → ((List UInt8 × List UInt8) × Int × List UInt8) → Int) (Q : ((List UInt8 × List UInt8) × Int × List UInt8) → Prop) : Prop where
  tp : TP c
  lt : g < 100000
  run : ∀ x y, Q x → Q y → ∀ σ, ev g [.agg [.str x.1.1, .str x.1.2, .int .i64 x.2.1, .str x.2.2], .agg [.str y.1.1, .str y.1.2, .int .i64 y.2.1, .str y.2.2]] σ = some (.int .i64 (c x y), σ)
theorem insertion_eqL {g : Nat} {c : ((List UInt8 × List UInt8) × Int × List UInt8) → ((List UInt8 × List UInt8) × Int × List UInt8) → Int} {Q : ((List UInt8 × List UInt8) × Int × List UInt8) → Prop} (h : CmpOkL g c Q) (b : Nat) (σ : List (List AV)) (pre L post : List ((List UInt8 × List UInt8) × Int × List UInt8)) (hL : ∀ x ∈ L, Q x) (N a e : Nat) (hN : N ≤ 2 ^ 30) (hNe : N = pre.length + (L.length + post.length)) (ha : a = pre.length) (he : e = a + L.length) (hb : b < σ.length) :
    ev 159 [.ms 42 4 b 0 N, .int .i64 a, .int .i64 e, .fn g []] (σ.set b (rowE esL (pre ++ (L ++ post)))) = some (.tup [], σ.set b (rowE esL (pre ++ (isrt c L ++ post)))) := by
  refine EV_post rfl Tryz.func159 rfl (by simp [Tryz.ntmps159]) (by kernel_rfl) (by kernel_rfl) ?_
  have w0 : IntKind.i64.wrap ((a : Int) + 1) = (a : Int) + 1 := wrap64 (by omega)
  have hgl := h.lt
  simp (maxSteps := 4000000) [List.getElem?_cons_zero, List.getElem?_cons_succ, -Prod.forall, w0]
  refine Post_loop (I := fun k : Nat => ⟨[(0, .ms 42 4 b 0 N), (1, .int .i64 a), (2, .int .i64 e), (3, .fn g []), (8, .int .i64 ((a + k : Nat) : Int))], [], σ.set b (rowE esL (pre ++ (isrt c (L.take k) ++ (L.drop k ++ post))))⟩) (Pr := fun k => 1 ≤ k ∧ (k ≤ L.length ∨ L = [])) (μ := fun k => L.length - k) (a := 1)
    (by cases L with
        | nil => simp [isrt]
        | cons x L => simp [isrt, ins1]) (by cases L <;> simp) ?_
  rintro k ⟨hk1, hk2⟩
  by_cases hc : k < L.length
  · obtain ⟨x, hx⟩ : ∃ x, L[k]? = some x := ⟨_, List.getElem?_eq_getElem hc⟩
    have hQx := hL x (List.mem_of_getElem? hx)
    have hdrop : L.drop k = x :: L.drop (k + 1) := by rw [List.drop_eq_getElem_cons hc]; congr 1; exact (List.getElem?_eq_some_iff.1 hx).2
    have hS : isrt c (L.take (k + 1)) = mrg c (isrt c (L.take k)) [x] := by
      rw [List.take_add_one, hx]; exact isrt_snoc h.tp _ _
    have hSs := isrt_srt' h.tp (L.take k)
    have hSl : (isrt c (L.take k)).length = k := by rw [isrt_len]; simp; omega
    have hSQ : ∀ y ∈ isrt c (L.take k), Q y := fun y hy => hL y (List.mem_of_mem_take (isrt_mem.1 hy))
    rw [hdrop]
    obtain ⟨S, hSe⟩ : ∃ S, isrt c (L.take k) = S := ⟨_, rfl⟩
    rw [hSe] at hS hSs hSl hSQ ⊢
    obtain ⟨m, hm⟩ : ∃ m, a + k = m := ⟨_, rfl⟩
    have q0 : (m : Int) < e := by omega
    have q1 : m < e := by omega
    simp (maxSteps := 4000000) [List.getElem?_cons_zero, List.getElem?_cons_succ, -Prod.forall, hm, q1]
    refine Post_loop (I := fun u : Nat => ⟨[(0, .ms 42 4 b 0 N), (1, .int .i64 a), (2, .int .i64 e), (3, .fn g []), (8, .int .i64 m), (9, .int .i64 ((a + u : Nat) : Int))], [], σ.set b (rowE esL (pre ++ (S.take u ++ x :: (S.drop u ++ (L.drop (k + 1) ++ post)))))⟩)
      (Pr := fun u => u ≤ k ∧ ∀ v ∈ S.drop u, c x v < 0) (μ := fun u => u) (a := k) (by simp [hm, ← hSl]; omega) (by simp [← hSl]) ?_
    rintro u ⟨hu, hV⟩
    have hfin : (∀ y, (S.take u).getLast? = some y → ¬ c x y < 0) → isrt c (L.take (k + 1)) = S.take u ++ x :: S.drop u := by
      intro hq
      rw [hS]
      have : S = S.take u ++ S.drop u := (List.take_append_drop u S).symm
      conv => lhs; rw [this]
      refine mrg_one (fun y hy => ?_) hV
      obtain ⟨z, hz⟩ : ∃ z, (S.take u).getLast? = some z := by
        cases hg : (S.take u).getLast? with
        | none => rw [List.getLast?_eq_none_iff] at hg; rw [hg] at hy; cases hy
        | some z => exact ⟨z, rfl⟩
      have h1 := hq z hz
      have hyz : y = z ∨ c y z ≤ 0 := by
        rw [this] at hSs
        have hs1 := (List.pairwise_append.1 hSs).1
        obtain ⟨ys, hys⟩ := List.getLast?_eq_some_iff.1 hz
        rw [hys] at hy hs1
        rcases List.mem_append.1 hy with hy | hy
        · exact .inr ((List.pairwise_append.1 hs1).2.2 y hy z (by simp))
        · simp at hy; exact .inl hy
      rcases hyz with rfl | hyz
      · exact h1
      · exact h.tp.nlt.2 (h.tp.trans _ _ _ hyz (h.tp.nlt.1 h1))
    obtain ⟨R, hR⟩ : ∃ R, L.drop (k + 1) ++ post = R := ⟨_, rfl⟩
    rw [hR]
    cases u with
    | zero =>
      have hf := hfin (by simp)
      have w2 : IntKind.i64.wrap ((m : Int) + 1) = (m : Int) + 1 := wrap64 (by omega)
      obtain ⟨D, hD⟩ : ∃ D, pre ++ (S.take 0 ++ x :: (S.drop 0 ++ R)) = D := ⟨_, rfl⟩
      rw [hD]
      simp (maxSteps := 4000000) [List.getElem?_cons_zero, List.getElem?_cons_succ, -Prod.forall, -regionA_true]
      refine Post_bndD [] _ (by rfl) (by simp (maxSteps := 4000000) [List.getElem?_cons_zero, List.getElem?_cons_succ, ]; exact rfl) ?_
      repeat (first
        | refine PostD_go _ (by rfl) (by rfl) (by simp (maxSteps := 4000000) [List.getElem?_cons_zero, List.getElem?_cons_succ, ]; exact rfl) (by first | exact .inl rfl | exact .inr rfl) (by rfl) ?_
        | refine PostD_no (by rfl) (by rfl) ?_)
      refine PostD_end ?_
      simp (maxSteps := 4000000) [List.getElem?_cons_zero, List.getElem?_cons_succ, -Prod.forall, w2]
      refine ⟨k + 1, ⟨by omega, by omega⟩, by omega, by omega, ?_⟩
      rw [hf, ← hD, ← hR]; simp
    | succ w =>
      obtain ⟨y, hy⟩ : ∃ y, S[w]? = some y := ⟨_, List.getElem?_eq_getElem (by omega)⟩
      have hQy := hSQ y (List.mem_of_getElem? hy)
      have hcmp := h.run x y hQx hQy
      have hB := bubL (pre := pre) (rest := R) (x := x) hy
      rw [← ha] at hB
      obtain ⟨D, hD⟩ : ∃ D, pre ++ (S.take (w + 1) ++ x :: (S.drop (w + 1) ++ R)) = D := ⟨_, rfl⟩
      rw [hD] at hB ⊢
      have hDl : D.length = N := by rw [← hD, ← hR]; simp; omega
      obtain ⟨i, hi⟩ : ∃ i, a + w = i := ⟨_, rfl⟩
      have hj : a + (w + 1) = i + 1 := by omega
      rw [hi, hj] at hB
      have w1 : IntKind.i64.wrap ((i : Int) + 1 - 1) = (i : Int) := by rw [wrap64 (by omega)]; omega
      have w2 : IntKind.i64.wrap ((m : Int) + 1) = (m : Int) + 1 := wrap64 (by omega)
      have p1 : (a : Int) < (i : Int) + 1 := by omega
      have p2 : ((i : Int) + 1).toNat = i + 1 := by omega
      have p3 : i + 1 < N := by omega
      have p4 : i < N := by omega
      have p5 : i * 4 + 4 ≤ (rowE esL D).length := by rw [es_lenL]; omega
      have p6 : (i + 1) * 4 + 4 ≤ (rowE esL D).length := by rw [es_lenL]; omega
      have p7 : (0 : Int) ≤ (i : Int) + 1 := by omega
      have g1 := es_getL hB.1
      have r1 := es_bndL hB.1
      have g2 := es_getL hB.2.1
      have r2 := es_bndL hB.2.1
      have s1 := es_setL (D := D) (i := i + 1) (y := y) (by omega)
      have s2 := es_setL (D := D.set (i + 1) y) (i := i) (y := x) (by simp; omega)
      have p8 : i * 4 + 4 ≤ (rowE esL (D.set (i + 1) y)).length := by rw [es_lenL]; simp; omega
      have hsw := hB.2.2
      rw [swap2_eq hB.2.1 hB.1] at hsw
      have hj2 : (a : Int) + ((w : Int) + 1) = ((i + 1 : Nat) : Int) := by omega
      have hi2 : (a : Int) + (w : Int) = (i : Int) := by omega
      obtain ⟨i1, hi1⟩ : ∃ z, i + 1 = z := ⟨_, rfl⟩
      have w1 : IntKind.i64.wrap ((i1 : Int) - 1) = (i : Int) := by rw [wrap64 (by omega)]; omega
      rw [hi1] at g2 r2 s1 p3 p6 hj2 hsw
      have s2 := es_setL (D := D.set i1 y) (i := i) (y := x) (by simp; omega)
      have p8 : i * 4 + 4 ≤ (rowE esL (D.set i1 y)).length := by rw [es_lenL]; simp; omega
      have p1 : a < i1 := by omega
      simp (maxSteps := 4000000) [List.getElem?_cons_zero, List.getElem?_cons_succ, -Prod.forall, -regionA_true, hj2]
      refine Post_bndD [] _ (by rfl) (by simp (maxSteps := 4000000) [List.getElem?_cons_zero, List.getElem?_cons_succ, ]; exact rfl) ?_
      repeat (first
        | refine PostD_go _ (by rfl) (by rfl) (by simp (maxSteps := 4000000) [List.getElem?_cons_zero, List.getElem?_cons_succ, -getElem?_pos, w1, p1, p3, p4, g1, g2, r1, r2, hgl, hcmp, hb]; exact rfl) (by first | exact .inl rfl | exact .inr rfl) (by rfl) ?_
        | refine PostD_no (by rfl) (by rfl) ?_)
      refine PostD_end ?_
      by_cases hlt : c x y < 0
      · have hV2 : ∀ v ∈ S.drop w, c x v < 0 := by
          have hd : S.drop w = y :: S.drop (w + 1) := by rw [List.drop_eq_getElem_cons (by omega)]; congr 1; exact (List.getElem?_eq_some_iff.1 hy).2
          rw [hd]
          intro v hv
          rcases List.mem_cons.1 hv with rfl | hv
          · exact hlt
          · exact hV v hv
        simp (maxSteps := 4000000) [List.getElem?_cons_zero, List.getElem?_cons_succ, -Prod.forall, -regionA_true, hlt]
        refine Post_bndD [] _ (by rfl) (by simp (maxSteps := 4000000) [List.getElem?_cons_zero, List.getElem?_cons_succ, ]; exact rfl) ?_
        repeat (first
          | refine PostD_go _ (by rfl) (by rfl) (by simp (maxSteps := 4000000) [List.getElem?_cons_zero, List.getElem?_cons_succ, -getElem?_pos, w1, p3, p4, p5, p6, p8, g1, g2, r1, r2, s1, s2, hb]; exact rfl) (by first | exact .inl rfl | exact .inr rfl) (by rfl) ?_
          | refine PostD_no (by rfl) (by rfl) ?_)
        refine PostD_end ?_
        simp (maxSteps := 4000000) [List.getElem?_cons_zero, List.getElem?_cons_succ, -Prod.forall, w1]
        exact ⟨w, ⟨by omega, hV2⟩, by omega, hi2.symm, by rw [hsw]⟩
      · have hf := hfin (fun z hz => by
          have : (S.take (w + 1)).getLast? = some y := by rw [List.take_add_one, hy]; simp
          rw [this] at hz; injection hz with hz; subst hz; exact hlt)
        simp (maxSteps := 4000000) [List.getElem?_cons_zero, List.getElem?_cons_succ, -Prod.forall, hlt, w2]
        refine ⟨k + 1, ⟨by omega, by omega⟩, by omega, by omega, ?_⟩
        rw [hf, ← hD, ← hR]; simp
  · have hk : L.take k = L ∧ L.drop k = [] := by
      rcases hk2 with h | h
      · exact ⟨List.take_of_length_le (by omega), List.drop_of_length_le (by omega)⟩
      · subst h; simp
    rw [hk.1, hk.2]
    obtain ⟨m, hm⟩ : ∃ m, a + k = m := ⟨_, rfl⟩
    have q1 : ¬ m < e := by omega
    have hlow := lowS_setset (σ := σ) (b := b) (X := rowE esL (pre ++ (L ++ post))) (lowL_rowE (E := esL) (n := σ.length) (fun x => by simp [esL]) (pre ++ (isrt c L ++ ([] ++ post))))
    rw [hm]
    obtain ⟨X, hX⟩ : ∃ X, rowE esL (pre ++ (isrt c L ++ ([] ++ post))) = X := ⟨_, rfl⟩
    rw [hX] at hlow ⊢
    simp (maxSteps := 4000000) [List.getElem?_cons_zero, List.getElem?_cons_succ, -Prod.forall, q1]
    rw [need_of hlow, ← hX]
    simp
end Go.Proofs.Tryz.Ai
end
section
/- Sorting a row of texts: rotation. -/
namespace Go.Proofs.Tryz.Ai
open Go Go.AI Go.Proofs
set_option maxHeartbeats 400000
set_option linter.unusedVariables false

theorem rotate_eqL (b : Nat) (σ : List (List AV)) (pre U V post : List ((List UInt8 × List UInt8) × Int × List UInt8)) (g N a m e : Nat) (hN : N ≤ 2 ^ 30) (hNe : N = pre.length + (U.length + (V.length + post.length))) (ha : a = pre.length) (hm : m = a + U.length) (he : e = m + V.length) (hU : 0 < U.length) (hV : 0 < V.length) (hb : b < σ.length) :
    ev 198 [.ms 42 4 b 0 N, .int .i64 a, .int .i64 m, .int .i64 e, .fn g []] (σ.set b (rowE esL (pre ++ (U ++ (V ++ post))))) = some (.tup [], σ.set b (rowE esL (pre ++ (V ++ (U ++ post))))) := by
  refine EV_post rfl Tryz.func198 rfl (by simp [Tryz.ntmps198]) (by kernel_rfl) (by kernel_rfl) ?_
  have w0 : IntKind.i64.wrap ((m : Int) - a) = (U.length : Int) := by rw [wrap64 (by omega)]; omega
  have w1 : IntKind.i64.wrap ((e : Int) - m) = (V.length : Int) := by rw [wrap64 (by omega)]; omega
  simp (maxSteps := 4000000) [List.getElem?_cons_zero, List.getElem?_cons_succ, -Prod.forall, w0, w1]
  refine Post_loop (I := fun x : List ((List UInt8 × List UInt8) × Int × List UInt8) × List ((List UInt8 × List UInt8) × Int × List UInt8) × List ((List UInt8 × List UInt8) × Int × List UInt8) × List ((List UInt8 × List UInt8) × Int × List UInt8) => ⟨[(0, .ms 42 4 b 0 N), (2, .int .i64 m), (4, .fn g []), (10, .int .i64 x.2.1.length), (11, .int .i64 x.2.2.1.length)], [], σ.set b (rowE esL (x.1 ++ (x.2.1 ++ (x.2.2.1 ++ x.2.2.2))))⟩)
    (Pr := fun x => x.1.length + x.2.1.length = m ∧ 0 < x.2.1.length ∧ 0 < x.2.2.1.length ∧ x.1 ++ (x.2.2.1 ++ (x.2.1 ++ x.2.2.2)) = pre ++ (V ++ (U ++ post))) (μ := fun x => x.2.1.length + x.2.2.1.length) (a := (pre, U, V, post)) (by simp) (by simp; omega) ?_
  rintro ⟨p, X, Y, q⟩ ⟨h1, h2, h3, h4⟩
  simp only at h1 h2 h3 h4 ⊢
  have hl := congrArg List.length h4
  simp only [List.length_append] at hl
  obtain ⟨i, hi⟩ : ∃ i, X.length = i := ⟨_, rfl⟩
  obtain ⟨j, hj⟩ : ∃ j, Y.length = j := ⟨_, rfl⟩
  have hp : p.length = m - i := by omega
  obtain ⟨z, hz⟩ : ∃ z, m - i = z := ⟨_, rfl⟩
  have w2 : IntKind.i64.wrap ((m : Int) - i) = (z : Int) := by rw [wrap64 (by omega)]; omega
  have hlen : (p ++ (X ++ (Y ++ q))).length = N := by simp; omega
  by_cases hij : i = j
  · have hs := swapRange_eqL b σ (p ++ (X ++ ([] ++ (Y ++ q)))) z m i g (by simp; omega) (by simp; omega) (by simp; omega) hb
    have hsw := swapN_at (pre := p) (U := X) (mid := []) (V := Y) (post := q) (n := i) hi (by omega)
    have e1 : p.length + (i + ([] : List ((List UInt8 × List UInt8) × Int × List UInt8)).length) = m := by simp; omega
    rw [e1, hp, hz] at hsw
    rw [hsw] at hs
    simp only [List.nil_append] at hs
    rw [hlen, h4] at hs
    subst hij
    simp (maxSteps := 4000000) [List.getElem?_cons_zero, List.getElem?_cons_succ, -Prod.forall, hi, hj, w2, hs, Tryz.results198]
  · have hij' : ¬ (i : Int) = j := by omega
    by_cases hlt : j < i
    · have hX : X = X.take j ++ X.drop j := (List.take_append_drop j X).symm
      have hs := swapRange_eqL b σ (p ++ (X.take j ++ (X.drop j ++ (Y ++ q)))) z m j g (by simp; omega) (by simp; omega) (by simp; omega) hb
      have hsw := swapN_at (pre := p) (U := X.take j) (mid := X.drop j) (V := Y) (post := q) (n := j) (by simp; omega) hj
      have e1 : p.length + (j + (X.drop j).length) = m := by simp; omega
      rw [e1, hp, hz] at hsw
      rw [hsw] at hs
      have e2 : X.take j ++ (X.drop j ++ (Y ++ q)) = X ++ (Y ++ q) := by rw [← List.append_assoc, ← hX]
      rw [e2, hlen] at hs
      have w3 : IntKind.i64.wrap ((i : Int) - j) = ((i - j : Nat) : Int) := by rw [wrap64 (by omega)]; omega
      obtain ⟨r, hr⟩ : ∃ r, i - j = r := ⟨_, rfl⟩
      rw [hr] at w3
      simp (maxSteps := 4000000) [List.getElem?_cons_zero, List.getElem?_cons_succ, -Prod.forall, hi, hj, hij, hlt, w2, w3, hs]
      refine ⟨p ++ Y, X.drop j, X.take j, q, ⟨?_, ?_, ?_, ?_⟩, ?_, ?_, ?_⟩
      · simp; omega
      · simp; omega
      · simp; omega
      · rw [← h4]
        simp only [List.append_assoc]
        rw [← List.append_assoc (X.take j), ← hX]
      · simp; omega
      · simp; omega
      · simp
    · have hlt' : i < j := by omega
      have hY : Y = Y.take (j - i) ++ Y.drop (j - i) := (List.take_append_drop (j - i) Y).symm
      obtain ⟨r, hr⟩ : ∃ r, j - i = r := ⟨_, rfl⟩
      rw [hr] at hY
      have hs := swapRange_eqL b σ (p ++ (X ++ (Y.take r ++ (Y.drop r ++ q)))) z (m + r) i g (by simp; omega) (by simp; omega) (by simp; omega) hb
      have hsw := swapN_at (pre := p) (U := X) (mid := Y.take r) (V := Y.drop r) (post := q) (n := i) hi (by simp; omega)
      have e1 : p.length + (i + (Y.take r).length) = m + r := by simp; omega
      rw [e1, hp, hz] at hsw
      rw [hsw] at hs
      have e2 : Y.take r ++ (Y.drop r ++ q) = Y ++ q := by rw [← List.append_assoc, ← hY]
      rw [e2, hlen] at hs
      have w3 : IntKind.i64.wrap ((j : Int) - i) = (r : Int) := by rw [wrap64 (by omega)]; omega
      obtain ⟨y, hy⟩ : ∃ y, m + r = y := ⟨_, rfl⟩
      have w4 : IntKind.i64.wrap ((m : Int) + j) = (m : Int) + j := wrap64 (by omega)
      have w5 : IntKind.i64.wrap ((m : Int) + j - i) = (y : Int) := by rw [wrap64 (by omega)]; omega
      rw [hy] at hs
      simp (maxSteps := 4000000) [List.getElem?_cons_zero, List.getElem?_cons_succ, -Prod.forall, hi, hj, hij, hlt, w2, w3, w4, w5, hs]
      refine ⟨p, Y.drop r, Y.take r, X ++ q, ⟨?_, ?_, ?_, ?_⟩, ?_, ?_, ?_⟩
      · simp; omega
      · simp; omega
      · simp; omega
      · rw [← h4]
        rw [← List.append_assoc (Y.take r), ← hY]
      · simp; omega
      · simp; omega
      · simp
end Go.Proofs.Tryz.Ai
end
section
/- Sorting a row of texts: merging. -/
namespace Go.Proofs.Tryz.Ai
open Go Go.AI Go.Proofs
set_option maxHeartbeats 400000
set_option linter.unusedVariables false

/-- what a merge does -/
def MrgOkL (g : Nat) (c : ((List UInt8 × List UInt8) × Int × List UInt8) → ((List UInt8 × List UInt8) × Int × List UInt8) → Int) (Q : ((List UInt8 × List UInt8) × Int × List UInt8) → Prop) (n : Nat) : Prop :=
  ∀ (b : Nat) (σ : List (List AV)) (pre L R post : List ((List UInt8 × List UInt8) × Int × List UInt8)) (N a m e : Nat), L.length + R.length = n → N ≤ 2 ^ 30 → N = pre.length + (L.length + (R.length + post.length)) → a = pre.length → m = a + L.length → e = m + R.length → 0 < L.length → 0 < R.length →
    Srt c L → Srt c R → (∀ x ∈ L, Q x) → (∀ x ∈ R, Q x) → b < σ.length →
    ev 160 [.ms 42 4 b 0 N, .int .i64 a, .int .i64 m, .int .i64 e, .fn g []] (σ.set b (rowE esL (pre ++ (L ++ (R ++ post))))) = some (.tup [], σ.set b (rowE esL (pre ++ (mrg c L R ++ post))))
theorem merge_oneL {g : Nat} {c : ((List UInt8 × List UInt8) × Int × List UInt8) → ((List UInt8 × List UInt8) × Int × List UInt8) → Int} {Q : ((List UInt8 × List UInt8) × Int × List UInt8) → Prop} (h : CmpOkL g c Q) (b : Nat) (σ : List (List AV)) (pre : List ((List UInt8 × List UInt8) × Int × List UInt8)) (x : (List UInt8 × List UInt8) × Int × List UInt8) (R post : List ((List UInt8 × List UInt8) × Int × List UInt8)) (N a m e : Nat) (hN : N ≤ 2 ^ 30) (hNe : N = pre.length + (1 + (R.length + post.length))) (ha : a = pre.length) (hm : m = a + 1) (he : e = m + R.length)
    (hR : Srt c R) (hx : Q x) (hQ : ∀ x ∈ R, Q x) (hb : b < σ.length) :
    ev 160 [.ms 42 4 b 0 N, .int .i64 a, .int .i64 m, .int .i64 e, .fn g []] (σ.set b (rowE esL (pre ++ ([x] ++ (R ++ post))))) = some (.tup [], σ.set b (rowE esL (pre ++ (mrg c [x] R ++ post)))) := by
  obtain ⟨D, hD⟩ : ∃ D, pre ++ ([x] ++ (R ++ post)) = D := ⟨_, rfl⟩
  have hDl : D.length = N := by rw [← hD]; simp; omega
  have hDx : D[a]? = some x := by rw [← hD, ha]; simp
  have hDR : ∀ k, k < R.length → D[m + k]? = R[k]? := by
    intro k hk
    rw [← hD, hm, ha, List.getElem?_append_right (by omega), List.getElem?_append_right (by simp; omega), List.getElem?_append_left (by simp; omega)]
    congr 1; simp; omega
  have w0 : IntKind.i64.wrap ((m : Int) - a) = 1 := by rw [wrap64 (by omega)]; omega
  have hgl := h.lt
  rw [hD]
  refine EV_post rfl Tryz.func160 rfl (by simp [Tryz.ntmps160]) (by kernel_rfl) (by kernel_rfl) ?_
  simp (maxSteps := 4000000) [List.getElem?_cons_zero, List.getElem?_cons_succ, -Prod.forall, w0]
  refine Post_loop (I := fun p : Nat × Nat => ⟨[(0, .ms 42 4 b 0 N), (1, .int .i64 a), (4, .fn g []), (10, .int .i64 p.1), (11, .int .i64 p.2)], [], σ.set b (rowE esL D)⟩)
    (Pr := fun p => m ≤ p.1 ∧ p.1 ≤ p.2 ∧ p.2 ≤ e ∧ (∀ y ∈ R.take (p.1 - m), c y x < 0) ∧ (∀ y ∈ R.drop (p.2 - m), ¬ c y x < 0)) (μ := fun p => p.2 - p.1) (a := (m, e)) (by simp) (by simp [he]) ?_
  rintro ⟨i, j⟩ ⟨h1, h2, h3, h4, h5⟩
  simp only at h1 h2 h3 h4 h5 ⊢
  by_cases hc : i < j
  · have hw := half_w (i := i) (j := j) (by omega)
    obtain ⟨z, hz⟩ : ∃ z, i + j = z := ⟨_, rfl⟩
    obtain ⟨k, hk⟩ : ∃ z, (i + j) / 2 = z := ⟨_, rfl⟩
    rw [hk, hz] at hw
    obtain ⟨hw1, hw2, hw3, hw4⟩ := hw
    have hk1 : i ≤ k ∧ k < j := by omega
    obtain ⟨y, hy⟩ : ∃ y, R[k - m]? = some y := ⟨_, List.getElem?_eq_getElem (by omega)⟩
    have hDy : D[k]? = some y := by rw [← hy, ← hDR _ (by omega)]; congr 1; omega
    have g1 := es_getL hDx
    have r1 := es_bndL hDx
    have g2 := es_getL hDy
    have r2 := es_bndL hDy
    have hcmp := h.run y x (hQ y (List.mem_of_getElem? hy)) hx
    have p1 : k < N := by omega
    have p2 : a < N := by omega
    have w5 : IntKind.i64.wrap ((k : Int) + 1) = ((k + 1 : Nat) : Int) := by rw [wrap64 (by omega)]; omega
    simp (maxSteps := 4000000) [List.getElem?_cons_zero, List.getElem?_cons_succ, -Prod.forall, -regionA_true, hc, hw1, hw2, hw3, hw4]
    refine Post_bndD [] _ (by rfl) (by simp (maxSteps := 4000000) [List.getElem?_cons_zero, List.getElem?_cons_succ, ]; exact rfl) ?_
    repeat (first
      | refine PostD_go _ (by rfl) (by rfl) (by simp (maxSteps := 4000000) [List.getElem?_cons_zero, List.getElem?_cons_succ, -getElem?_pos, p1, p2, g1, g2, r1, r2, hgl, hcmp, hb]; exact rfl) (by first | exact .inl rfl | exact .inr rfl) (by rfl) ?_
      | refine PostD_no (by rfl) (by rfl) ?_)
    refine PostD_end ?_
    have hge : k - m < R.length := by omega
    by_cases hlt : c y x < 0
    · simp (maxSteps := 4000000) [List.getElem?_cons_zero, List.getElem?_cons_succ, -Prod.forall, hlt, w5]
      refine ⟨k + 1, j, ⟨by omega, by omega, by omega, fun w hw => ?_, fun w hw => ?_⟩, by omega, by simp⟩
      · obtain ⟨q, hq, hw⟩ := mem_take_get hw
        exact h.tp.le_lt (srt_get h.tp hR (by omega) hw hy) hlt
      · have := h5 w hw; omega
    · simp (maxSteps := 4000000) [List.getElem?_cons_zero, List.getElem?_cons_succ, -Prod.forall, hlt]
      refine ⟨i, k, ⟨by omega, by omega, by omega, fun w hw => ?_, fun w hw => ?_⟩, by omega, by simp, by simp⟩
      · exact h4 w hw
      · obtain ⟨q, hq, hw⟩ := mem_drop_get hw
        have := h.tp.nlt.1 hlt
        have := h.tp.trans _ _ _ this (srt_get h.tp hR hq hy hw)
        have := h.tp.flip x w; omega
  · have hij : i = j := by omega
    subst hij
    simp (maxSteps := 4000000) [List.getElem?_cons_zero, List.getElem?_cons_succ, -Prod.forall, hc]
    obtain ⟨p, hp⟩ : ∃ p, i - m = p := ⟨_, rfl⟩
    rw [hp] at h4 h5
    have hfin : mrg c [x] R = R.take p ++ x :: R.drop p := by
      conv => lhs; rw [← List.take_append_drop p R]
      exact mrg_one' h4 h5
    have hi : i = a + 1 + p := by omega
    have hpR : p ≤ R.length := by omega
    have w1 : IntKind.i64.wrap ((i : Int) - 1) = ((a + p : Nat) : Int) := by rw [wrap64 (by omega)]; omega
    refine Post_loop (I := fun u : Nat => ⟨[(0, .ms 42 4 b 0 N), (10, .int .i64 i), (13, .int .i64 ((a + u : Nat) : Int))], [], σ.set b (rowE esL (pre ++ (R.take u ++ x :: (R.drop u ++ post))))⟩)
      (Pr := fun u => u ≤ p) (μ := fun u => p - u) (a := 0) (by simp [← hD]) (by simp) ?_
    intro u hu
    by_cases huc : u < p
    · obtain ⟨y, hy⟩ : ∃ y, R[u]? = some y := ⟨_, List.getElem?_eq_getElem (by omega)⟩
      have hB := bubR (pre := pre) (rest := post) (x := x) hy
      rw [← ha] at hB
      obtain ⟨D', hD'⟩ : ∃ D', pre ++ (R.take u ++ x :: (R.drop u ++ post)) = D' := ⟨_, rfl⟩
      rw [hD'] at hB ⊢
      have hDl' : D'.length = N := by rw [← hD']; simp; omega
      obtain ⟨k, hk⟩ : ∃ z, a + u = z := ⟨_, rfl⟩
      obtain ⟨k1, hk1⟩ : ∃ z, k + 1 = z := ⟨_, rfl⟩
      have e1 : a + (u + 1) = k1 := by omega
      rw [hk, e1] at hB
      obtain ⟨z, hz⟩ : ∃ z, a + p = z := ⟨_, rfl⟩
      rw [hz] at w1
      have q1 : k < z := by omega
      have w2 : IntKind.i64.wrap ((k : Int) + 1) = (k1 : Int) := by rw [wrap64 (by omega)]; omega
      have g1 := es_getL hB.1
      have r1 := es_bndL hB.1
      have g2 := es_getL hB.2.1
      have r2 := es_bndL hB.2.1
      have s1 := es_setL (D := D') (i := k) (y := y) (by omega)
      have s2 := es_setL (D := D'.set k y) (i := k1) (y := x) (by simp; omega)
      have hsw := hB.2.2
      rw [swap2_eq hB.1 hB.2.1] at hsw
      have p1 : k < N := by omega
      have p2 : k1 < N := by omega
      have p5 : k * 4 + 4 ≤ (rowE esL D').length := by rw [es_lenL]; omega
      have p6 : k1 * 4 + 4 ≤ (rowE esL (D'.set k y)).length := by rw [es_lenL]; simp; omega
      rw [hk]
      simp (maxSteps := 4000000) [List.getElem?_cons_zero, List.getElem?_cons_succ, -Prod.forall, -regionA_true, w1, q1]
      refine Post_bndD [] _ (by rfl) (by simp (maxSteps := 4000000) [List.getElem?_cons_zero, List.getElem?_cons_succ, ]; exact rfl) ?_
      repeat (first
        | refine PostD_go _ (by rfl) (by rfl) (by simp (maxSteps := 4000000) [List.getElem?_cons_zero, List.getElem?_cons_succ, -getElem?_pos, w2, p1, p2, p5, p6, g1, g2, r1, r2, s1, s2, hb]; exact rfl) (by first | exact .inl rfl | exact .inr rfl) (by rfl) ?_
        | refine PostD_no (by rfl) (by rfl) ?_)
      refine PostD_end ?_
      simp (maxSteps := 4000000) [List.getElem?_cons_zero, List.getElem?_cons_succ, -Prod.forall, w2]
      exact ⟨u + 1, by omega, by omega, by omega, by rw [hsw]⟩
    · obtain rfl : u = p := by omega
      obtain ⟨k, hk⟩ : ∃ z, a + u = z := ⟨_, rfl⟩
      rw [hk] at w1 ⊢
      have hlow := lowS_setset (σ := σ) (b := b) (X := rowE esL D) (lowL_rowE (E := esL) (n := σ.length) (fun x => by simp [esL]) (pre ++ (mrg c [x] R ++ post)))
      have e2 : pre ++ (R.take u ++ x :: (R.drop u ++ post)) = pre ++ (mrg c [x] R ++ post) := by rw [hfin]; simp
      rw [e2]
      obtain ⟨X, hX⟩ : ∃ X, rowE esL (pre ++ (mrg c [x] R ++ post)) = X := ⟨_, rfl⟩
      rw [hX] at hlow ⊢
      simp (maxSteps := 4000000) [List.getElem?_cons_zero, List.getElem?_cons_succ, -Prod.forall, w1]
      rw [need_of hlow]
theorem merge_lastL {g : Nat} {c : ((List UInt8 × List UInt8) × Int × List UInt8) → ((List UInt8 × List UInt8) × Int × List UInt8) → Int} {Q : ((List UInt8 × List UInt8) × Int × List UInt8) → Prop} (h : CmpOkL g c Q) (b : Nat) (σ : List (List AV)) (pre : List ((List UInt8 × List UInt8) × Int × List UInt8)) (x : (List UInt8 × List UInt8) × Int × List UInt8) (L post : List ((List UInt8 × List UInt8) × Int × List UInt8)) (N a m e : Nat) (hN : N ≤ 2 ^ 30) (hNe : N = pre.length + (L.length + (1 + post.length))) (ha : a = pre.length) (hm : m = a + L.length) (he : e = m + 1) (h2 : 2 ≤ L.length)
    (hL : Srt c L) (hx : Q x) (hQ : ∀ x ∈ L, Q x) (hb : b < σ.length) :
    ev 160 [.ms 42 4 b 0 N, .int .i64 a, .int .i64 m, .int .i64 e, .fn g []] (σ.set b (rowE esL (pre ++ (L ++ ([x] ++ post))))) = some (.tup [], σ.set b (rowE esL (pre ++ (mrg c L [x] ++ post)))) := by
  obtain ⟨D, hD⟩ : ∃ D, pre ++ (L ++ ([x] ++ post)) = D := ⟨_, rfl⟩
  have hDl : D.length = N := by rw [← hD]; simp; omega
  have hDx : D[m]? = some x := by
    rw [← hD, hm, ha, List.getElem?_append_right (by omega), List.getElem?_append_right (by omega)]; simp
  have hDL : ∀ k, k < L.length → D[a + k]? = L[k]? := by
    intro k hk
    rw [← hD, ha, List.getElem?_append_right (by omega), List.getElem?_append_left (by omega)]
    congr 1; omega
  have w0 : IntKind.i64.wrap ((m : Int) - a) = (L.length : Int) := by rw [wrap64 (by omega)]; omega
  have w1 : IntKind.i64.wrap ((e : Int) - m) = 1 := by rw [wrap64 (by omega)]; omega
  have hgl := h.lt
  have q0 : ¬ (L.length : Int) = 1 := by omega
  have q0' : ¬ L.length = 1 := by omega
  rw [hD]
  refine EV_post rfl Tryz.func160 rfl (by simp [Tryz.ntmps160]) (by kernel_rfl) (by kernel_rfl) ?_
  simp (maxSteps := 4000000) [List.getElem?_cons_zero, List.getElem?_cons_succ, -Prod.forall, w0, w1, q0, q0']
  refine Post_loop (I := fun p : Nat × Nat => ⟨[(0, .ms 42 4 b 0 N), (2, .int .i64 m), (4, .fn g []), (14, .int .i64 p.1), (15, .int .i64 p.2)], [], σ.set b (rowE esL D)⟩)
    (Pr := fun p => a ≤ p.1 ∧ p.1 ≤ p.2 ∧ p.2 ≤ m ∧ (∀ y ∈ L.take (p.1 - a), ¬ c x y < 0) ∧ (∀ y ∈ L.drop (p.2 - a), c x y < 0)) (μ := fun p => p.2 - p.1) (a := (a, m)) (by simp) (by simp [hm]) ?_
  rintro ⟨i, j⟩ ⟨h1, h2, h3, h4, h5⟩
  simp only at h1 h2 h3 h4 h5 ⊢
  by_cases hc : i < j
  · have hw := half_w (i := i) (j := j) (by omega)
    obtain ⟨z, hz⟩ : ∃ z, i + j = z := ⟨_, rfl⟩
    obtain ⟨k, hk⟩ : ∃ z, (i + j) / 2 = z := ⟨_, rfl⟩
    rw [hk, hz] at hw
    obtain ⟨hw1, hw2, hw3, hw4⟩ := hw
    have hk1 : i ≤ k ∧ k < j := by omega
    obtain ⟨y, hy⟩ : ∃ y, L[k - a]? = some y := ⟨_, List.getElem?_eq_getElem (by omega)⟩
    have hDy : D[k]? = some y := by rw [← hy, ← hDL _ (by omega)]; congr 1; omega
    have g1 := es_getL hDx
    have r1 := es_bndL hDx
    have g2 := es_getL hDy
    have r2 := es_bndL hDy
    have hcmp := h.run x y hx (hQ y (List.mem_of_getElem? hy))
    have p1 : k < N := by omega
    have p2 : m < N := by omega
    have w5 : IntKind.i64.wrap ((k : Int) + 1) = ((k + 1 : Nat) : Int) := by rw [wrap64 (by omega)]; omega
    simp (maxSteps := 4000000) [List.getElem?_cons_zero, List.getElem?_cons_succ, -Prod.forall, -regionA_true, hc, hw1, hw2, hw3, hw4]
    refine Post_bndD [] _ (by rfl) (by simp (maxSteps := 4000000) [List.getElem?_cons_zero, List.getElem?_cons_succ, ]; exact rfl) ?_
    repeat (first
      | refine PostD_go _ (by rfl) (by rfl) (by simp (maxSteps := 4000000) [List.getElem?_cons_zero, List.getElem?_cons_succ, -getElem?_pos, p1, p2, g1, g2, r1, r2, hgl, hcmp, hb]; exact rfl) (by first | exact .inl rfl | exact .inr rfl) (by rfl) ?_
      | refine PostD_no (by rfl) (by rfl) ?_)
    refine PostD_end ?_
    by_cases hlt : c x y < 0
    · simp (maxSteps := 4000000) [List.getElem?_cons_zero, List.getElem?_cons_succ, -Prod.forall, hlt]
      refine ⟨i, k, ⟨by omega, by omega, by omega, fun w hw => ?_, fun w hw => ?_⟩, by omega, by simp, by simp⟩
      · have := h4 w hw; omega
      · obtain ⟨q, hq, hw⟩ := mem_drop_get hw
        exact h.tp.lt_le hlt (srt_get h.tp hL hq hy hw)
    · simp (maxSteps := 4000000) [List.getElem?_cons_zero, List.getElem?_cons_succ, -Prod.forall, hlt, w5]
      refine ⟨k + 1, j, ⟨by omega, by omega, by omega, fun w hw => ?_, fun w hw => ?_⟩, by omega, by simp⟩
      · obtain ⟨q, hq, hw⟩ := mem_take_get hw
        have := h.tp.trans _ _ _ (srt_get h.tp hL (by omega) hw hy) (h.tp.nlt.1 hlt)
        have := h.tp.flip x w; omega
      · exact h5 w hw
  · have hij : i = j := by omega
    subst hij
    simp (maxSteps := 4000000) [List.getElem?_cons_zero, List.getElem?_cons_succ, -Prod.forall, hc]
    obtain ⟨p, hp⟩ : ∃ p, i - a = p := ⟨_, rfl⟩
    rw [hp] at h4 h5
    have hfin : mrg c L [x] = L.take p ++ x :: L.drop p := by
      conv => lhs; rw [← List.take_append_drop p L]
      exact mrg_one h4 h5
    have hi : i = a + p := by omega
    have hpR : p ≤ L.length := by omega
    refine Post_loop (I := fun u : Nat => ⟨[(0, .ms 42 4 b 0 N), (14, .int .i64 i), (17, .int .i64 ((a + u : Nat) : Int))], [], σ.set b (rowE esL (pre ++ (L.take u ++ x :: (L.drop u ++ post))))⟩)
      (Pr := fun u => p ≤ u ∧ u ≤ L.length) (μ := fun u => u - p) (a := L.length) (by simp [← hD, hm]) (by simp; omega) ?_
    rintro u ⟨hu, hul⟩
    by_cases huc : p < u
    · obtain ⟨w, rfl⟩ : ∃ w, u = w + 1 := ⟨u - 1, by omega⟩
      obtain ⟨y, hy⟩ : ∃ y, L[w]? = some y := ⟨_, List.getElem?_eq_getElem (by omega)⟩
      have hB := bubL (pre := pre) (rest := post) (x := x) hy
      rw [← ha] at hB
      obtain ⟨D', hD'⟩ : ∃ D', pre ++ (L.take (w + 1) ++ x :: (L.drop (w + 1) ++ post)) = D' := ⟨_, rfl⟩
      rw [hD'] at hB ⊢
      have hDl' : D'.length = N := by rw [← hD']; simp; omega
      obtain ⟨k, hk⟩ : ∃ z, a + w = z := ⟨_, rfl⟩
      obtain ⟨k1, hk1⟩ : ∃ z, k + 1 = z := ⟨_, rfl⟩
      have e1 : a + (w + 1) = k1 := by omega
      rw [hk, e1] at hB
      have q1 : i < k1 := by omega
      have w2 : IntKind.i64.wrap ((k1 : Int) - 1) = (k : Int) := by rw [wrap64 (by omega)]; omega
      have g1 := es_getL hB.1
      have r1 := es_bndL hB.1
      have g2 := es_getL hB.2.1
      have r2 := es_bndL hB.2.1
      have s1 := es_setL (D := D') (i := k1) (y := y) (by omega)
      have s2 := es_setL (D := D'.set k1 y) (i := k) (y := x) (by simp; omega)
      have hsw := hB.2.2
      rw [swap2_eq hB.2.1 hB.1] at hsw
      have p1 : k < N := by omega
      have p2 : k1 < N := by omega
      have p5 : k1 * 4 + 4 ≤ (rowE esL D').length := by rw [es_lenL]; omega
      have p6 : k * 4 + 4 ≤ (rowE esL (D'.set k1 y)).length := by rw [es_lenL]; simp; omega
      rw [e1]
      simp (maxSteps := 4000000) [List.getElem?_cons_zero, List.getElem?_cons_succ, -Prod.forall, -regionA_true, q1]
      refine Post_bndD [] _ (by rfl) (by simp (maxSteps := 4000000) [List.getElem?_cons_zero, List.getElem?_cons_succ, ]; exact rfl) ?_
      repeat (first
        | refine PostD_go _ (by rfl) (by rfl) (by simp (maxSteps := 4000000) [List.getElem?_cons_zero, List.getElem?_cons_succ, -getElem?_pos, w2, p1, p2, p5, p6, g1, g2, r1, r2, s1, s2, hb]; exact rfl) (by first | exact .inl rfl | exact .inr rfl) (by rfl) ?_
        | refine PostD_no (by rfl) (by rfl) ?_)
      refine PostD_end ?_
      simp (maxSteps := 4000000) [List.getElem?_cons_zero, List.getElem?_cons_succ, -Prod.forall, w2]
      exact ⟨w, ⟨by omega, by omega⟩, by omega, by omega, by rw [hsw]⟩
    · obtain rfl : u = p := by omega
      have e3 : a + u = i := by omega
      rw [e3]
      have hlow := lowS_setset (σ := σ) (b := b) (X := rowE esL D) (lowL_rowE (E := esL) (n := σ.length) (fun x => by simp [esL]) (pre ++ (mrg c L [x] ++ post)))
      have e2 : pre ++ (L.take u ++ x :: (L.drop u ++ post)) = pre ++ (mrg c L [x] ++ post) := by rw [hfin]; simp
      rw [e2]
      obtain ⟨X, hX⟩ : ∃ X, rowE esL (pre ++ (mrg c L [x] ++ post)) = X := ⟨_, rfl⟩
      rw [hX] at hlow ⊢
      simp (maxSteps := 4000000) [List.getElem?_cons_zero, List.getElem?_cons_succ, -Prod.forall]
      rw [need_of hlow]
end Go.Proofs.Tryz.Ai
end
section
/- Sorting a row of texts: merging two rows. -/
namespace Go.Proofs.Tryz.Ai
open Go Go.AI Go.Proofs
set_option maxHeartbeats 2000000
set_option linter.unusedVariables false

theorem merge_eqL {g : Nat} {c : ((List UInt8 × List UInt8) × Int × List UInt8) → ((List UInt8 × List UInt8) × Int × List UInt8) → Int} {Q : ((List UInt8 × List UInt8) × Int × List UInt8) → Prop} (h : CmpOkL g c Q) (n : Nat) : MrgOkL g c Q n := by
  induction n using Nat.strongRecOn with
  | _ n ih =>
  intro b σ pre L R post N a m e hn hN hNe ha hm he hL0 hR0 hL hR hQL hQR hb
  by_cases l1 : L.length = 1
  · obtain ⟨x, rfl⟩ := List.length_eq_one_iff.1 l1
    exact merge_oneL h b σ pre x R post N a m e hN (by simpa using hNe) ha (by simpa using hm) he hR (hQL x (by simp)) hQR hb
  by_cases r1 : R.length = 1
  · obtain ⟨x, rfl⟩ := List.length_eq_one_iff.1 r1
    exact merge_lastL h b σ pre x L post N a m e hN (by simpa using hNe) ha hm (by simpa using he) (by omega) hL (hQR x (by simp)) hQL hb
  obtain ⟨D, hD⟩ : ∃ D, pre ++ (L ++ (R ++ post)) = D := ⟨_, rfl⟩
  have hDl : D.length = N := by rw [← hD]; simp; omega
  have hDL : ∀ k, k < L.length → D[a + k]? = L[k]? := by
    intro k hk
    rw [← hD, ha, List.getElem?_append_right (by omega), List.getElem?_append_left (by omega)]
    congr 1; omega
  have hDR : ∀ k, k < R.length → D[m + k]? = R[k]? := by
    intro k hk
    rw [← hD, hm, ha, List.getElem?_append_right (by omega), List.getElem?_append_right (by omega), List.getElem?_append_left (by omega)]
    congr 1; omega
  have w0 : IntKind.i64.wrap ((m : Int) - a) = (L.length : Int) := by rw [wrap64 (by omega)]; omega
  have w1 : IntKind.i64.wrap ((e : Int) - m) = (R.length : Int) := by rw [wrap64 (by omega)]; omega
  have hgl := h.lt
  have q0 : ¬ (L.length : Int) = 1 := by omega
  have q1 : ¬ (R.length : Int) = 1 := by omega
  obtain ⟨mid, nn, p0, S0, S1, k0, hw1, hw2, hw3, hw4, w2, w4, k1, k2⟩ := cut_nums (l := L.length) (r := R.length) (N := N) hm he (by omega) hN (by omega) (by omega)
  obtain ⟨k01, k02, k03, k04, k05, k06, k07, k08, k09, k10, k11⟩ := k0
  have hlow := lowS_setset (σ := σ) (b := b) (X := rowE esL D) (lowL_rowE (E := esL) (n := σ.length) (fun x => by simp [esL]) (pre ++ (mrg c L R ++ post)))
  rw [hD]
  obtain ⟨fin, hfin⟩ : ∃ X, rowE esL (pre ++ (mrg c L R ++ post)) = X := ⟨_, rfl⟩
  rw [hfin] at hlow ⊢
  refine EV_post rfl Tryz.func160 rfl (by simp [Tryz.ntmps160]) (by kernel_rfl) (by kernel_rfl) ?_
  have hae : ((a + e : Nat) : Int) = (a : Int) + e := by omega
  rw [hae] at hw1 hw2 hw3
  simp (maxSteps := 4000000) [List.getElem?_cons_zero, List.getElem?_cons_succ, -Prod.forall, w0, w1, q0, q1, l1, r1, hw1, hw2, hw3, hw4, w2]
  clear hae
  refine Post_of_eq (st2 := ⟨[(0, .ms 42 4 b 0 N), (1, .int .i64 a), (2, .int .i64 m), (3, .int .i64 e), (4, .fn g []), (18, .int .i64 mid), (19, .int .i64 nn), (20, .int .i64 S0), (21, .int .i64 S1)], [], σ.set b (rowE esL D)⟩) ?_ ?_
  · by_cases hmm : mid < m
    · obtain ⟨w3, e1⟩ := k1 hmm
      simp [hmm, w3, e1]
    · obtain ⟨e0, e1⟩ := k2 hmm
      simp [hmm, e0, e1]
  clear k1 k2
  simp (maxSteps := 4000000) [List.getElem?_cons_zero, List.getElem?_cons_succ, -Prod.forall, w4]
  clear w0 w1 w2 w4 hw1 hw2 hw3 hw4 q0 q1 l1 r1
  refine Post_loop (I := fun p : Nat × Nat => ⟨[(0, .ms 42 4 b 0 N), (1, .int .i64 a), (2, .int .i64 m), (3, .int .i64 e), (4, .fn g []), (18, .int .i64 mid), (19, .int .i64 nn), (20, .int .i64 p.1), (21, .int .i64 p.2), (22, .int .i64 p0)], [], σ.set b (rowE esL D)⟩)
    (Pr := fun p => S0 ≤ p.1 ∧ p.1 ≤ p.2 ∧ p.2 ≤ S1 ∧ (p.1 = S0 ∨ below1 c L R (p.1 - a) (mid - p.1)) ∧ (p.2 = S1 ∨ below2 c L R (p.2 - a) (mid - p.2))) (μ := fun p => p.2 - p.1) (a := (S0, S1)) (by simp) ⟨Nat.le_refl _, k02, Nat.le_refl _, .inl rfl, .inl rfl⟩ ?_
  rintro ⟨i, j⟩ ⟨h1, h2, h3, h4, h5⟩
  simp only at h1 h2 h3 h4 h5 ⊢
  by_cases hc : i < j
  · have hw := half_w (i := i) (j := j) (by omega)
    obtain ⟨z, hz⟩ : ∃ z, i + j = z := ⟨_, rfl⟩
    obtain ⟨k, hk⟩ : ∃ z, (i + j) / 2 = z := ⟨_, rfl⟩
    rw [hk, hz] at hw
    obtain ⟨hv1, hv2, hv3, hv4⟩ := hw
    have hk1 : i ≤ k ∧ k < j := by omega
    obtain ⟨x, hx⟩ : ∃ y, L[k - a]? = some y := ⟨_, List.getElem?_eq_getElem (by omega)⟩
    obtain ⟨y, hy⟩ : ∃ y, R[mid - k - 1]? = some y := ⟨_, List.getElem?_eq_getElem (by omega)⟩
    obtain ⟨k2, hk2⟩ : ∃ z, m + (mid - k - 1) = z := ⟨_, rfl⟩
    have hDx : D[k]? = some x := by rw [← hx, ← hDL _ (by omega)]; congr 1; omega
    have hDy : D[k2]? = some y := by rw [← hy, ← hDR _ (by omega), hk2]
    have g1 := es_getL hDx
    have r1 := es_bndL hDx
    have g2 := es_getL hDy
    have r2 := es_bndL hDy
    have hcmp := h.run y x (hQR y (List.mem_of_getElem? hy)) (hQL x (List.mem_of_getElem? hx))
    have p1 : k < N := by omega
    have p2 : k2 < N := by omega
    have v5 : IntKind.i64.wrap ((p0 : Int) - k) = (k2 : Int) := by rw [wrap64 (by omega)]; omega
    have v6 : IntKind.i64.wrap ((k : Int) + 1) = ((k + 1 : Nat) : Int) := by rw [wrap64 (by omega)]; omega
    simp (maxSteps := 4000000) [List.getElem?_cons_zero, List.getElem?_cons_succ, -Prod.forall, -regionA_true, hc, hv1, hv2, hv3, hv4]
    refine Post_bndD [] _ (by rfl) (by simp (maxSteps := 4000000) [List.getElem?_cons_zero, List.getElem?_cons_succ, ]; exact rfl) ?_
    repeat (first
      | refine PostD_go _ (by rfl) (by rfl) (by simp (maxSteps := 4000000) [List.getElem?_cons_zero, List.getElem?_cons_succ, -getElem?_pos, p1, p2, v5, g1, g2, r1, r2, hgl, hcmp, hb]; exact rfl) (by first | exact .inl rfl | exact .inr rfl) (by rfl) ?_
      | refine PostD_no (by rfl) (by rfl) ?_)
    refine PostD_end ?_
    by_cases hlt : c y x < 0
    · simp (maxSteps := 4000000) [List.getElem?_cons_zero, List.getElem?_cons_succ, -Prod.forall, hlt]
      refine ⟨i, k, ⟨by omega, by omega, by omega, ?_, .inr ⟨x, y, hx, hy, hlt⟩⟩, by omega, by simp, by simp⟩
      exact h4
    · simp (maxSteps := 4000000) [List.getElem?_cons_zero, List.getElem?_cons_succ, -Prod.forall, hlt, v6]
      refine ⟨k + 1, j, ⟨by omega, by omega, by omega, .inr ⟨x, y, ?_, ?_, hlt⟩, h5⟩, by omega, by simp⟩
      · rw [← hx]; congr 1; omega
      · rw [← hy]; congr 1
  · obtain rfl : i = j := by omega
    obtain ⟨s, hs⟩ : ∃ s, i - a = s := ⟨_, rfl⟩
    obtain ⟨t, ht⟩ : ∃ t, mid - i = t := ⟨_, rfl⟩
    rw [hs, ht] at h4 h5
    have hcut := mrg_cut h.tp hL hR (s := s) (t := t) (by
      rcases h4 with h4 | h4
      · by_cases q : s = 0
        · exact .inl q
        · exact .inr (.inl (by omega))
      · exact .inr (.inr h4)) (by
      rcases h5 with h5 | h5
      · by_cases q : t = 0
        · exact .inl q
        · exact .inr (.inl (by omega))
      · exact .inr (.inr h5))
    obtain ⟨E, hE⟩ : ∃ E, nn - i = E := ⟨_, rfl⟩
    have v1 : IntKind.i64.wrap ((nn : Int) - i) = (E : Int) := by rw [wrap64 (by omega)]; omega
    have hsL : s ≤ L.length := by omega
    have htR : t ≤ R.length := by omega
    have hi : i = a + s := by omega
    have hmi : mid = a + (s + t) := by omega
    have hEm : E = m + t := by omega
    clear h4 h5
    have hLs := List.take_append_drop s L
    have hRs := List.take_append_drop t R
    have lA : (L.take s).length = s := by simp; omega
    have lB : (L.drop s).length = L.length - s := by simp
    have lC : (R.take t).length = t := by simp; omega
    have lD : (R.drop t).length = R.length - t := by simp
    have sA := srt_take hL s
    have sB := srt_drop hL s
    have sC := srt_take hR t
    have sD := srt_drop hR t
    have QA : ∀ x ∈ L.take s, Q x := fun x hx => hQL x (List.mem_of_mem_take hx)
    have QB : ∀ x ∈ L.drop s, Q x := fun x hx => hQL x (List.mem_of_mem_drop hx)
    have QC : ∀ x ∈ R.take t, Q x := fun x hx => hQR x (List.mem_of_mem_take hx)
    have QD : ∀ x ∈ R.drop t, Q x := fun x hx => hQR x (List.mem_of_mem_drop hx)
    rw [hcut] at hfin
    generalize L.take s = A at *
    generalize L.drop s = B at *
    generalize R.take t = C at *
    generalize R.drop t = F at *
    subst hLs hRs
    simp only [List.length_append] at *
    have hrot : 0 < B.length → 0 < C.length → _ := fun q1 q2 => rotate_eqL b σ (pre ++ A) B C (F ++ post) g N i m E hN (by simp; omega) (by simp; omega) (by omega) (by omega) q1 q2 hb
    have hm1 : 0 < A.length → 0 < C.length → _ := fun q1 q2 => ih (s + t) (by omega) b σ pre A C (B ++ (F ++ post)) N a i mid (by omega) hN (by simp; omega) ha (by omega) (by omega) q1 q2 sA sC QA QC hb
    have hm2 : 0 < B.length → 0 < F.length → _ := fun q1 q2 => ih (B.length + F.length) (by omega) b σ (pre ++ mrg c A C) B F post N mid E e rfl hN (by simp [(mrg_perm A C).length_eq]; omega) (by simp [(mrg_perm A C).length_eq]; omega) (by omega) (by omega) q1 q2 sB sD QB QD hb
    simp only [List.append_assoc] at hrot hm1 hm2 hfin hD
    rw [hD] at hrot
    have n1 : ¬ (0 < B.length ∧ 0 < C.length) → rowE esL D = rowE esL (pre ++ (A ++ (C ++ (B ++ (F ++ post))))) := by
      intro q
      rw [← hD]
      rcases Nat.eq_zero_or_pos B.length with q1 | q1
      · rw [List.length_eq_zero_iff.1 q1]; simp
      · rw [List.length_eq_zero_iff.1 (show C.length = 0 by omega)]; simp
    have n2 : ¬ (0 < A.length ∧ 0 < C.length) → rowE esL (pre ++ (A ++ (C ++ (B ++ (F ++ post))))) = rowE esL (pre ++ (mrg c A C ++ (B ++ (F ++ post)))) := by
      intro q
      rcases Nat.eq_zero_or_pos A.length with q1 | q1
      · rw [List.length_eq_zero_iff.1 q1]; simp
      · rw [List.length_eq_zero_iff.1 (show C.length = 0 by omega)]; simp
    have n3 : ¬ (0 < B.length ∧ 0 < F.length) → rowE esL (pre ++ (mrg c A C ++ (B ++ (F ++ post)))) = fin := by
      intro q
      rw [← hfin]
      rcases Nat.eq_zero_or_pos B.length with q1 | q1
      · rw [List.length_eq_zero_iff.1 q1]; simp
      · rw [List.length_eq_zero_iff.1 (show F.length = 0 by omega)]; simp
    rw [hfin] at hm2
    generalize rowE esL D = X0 at *
    generalize rowE esL (pre ++ (A ++ (C ++ (B ++ (F ++ post))))) = X1 at *
    generalize rowE esL (pre ++ (mrg c A C ++ (B ++ (F ++ post)))) = X2 at *
    clear hfin hcut hDL hDR ih k05 k06 k07 hD hDl
    have hrot' : i < m → m < E → _ := fun q1 q2 => hrot (by omega) (by omega)
    have hm1' : a < i → i < mid → _ := fun q1 q2 => hm1 (by omega) (by omega)
    have hm2' : mid < E → E < e → _ := fun q1 q2 => hm2 (by omega) (by omega)
    clear hrot hm1 hm2
    by_cases c1 : i < m <;> by_cases c2 : m < E <;> by_cases c4 : i < mid <;> by_cases c5 : mid < E <;> (first | (exfalso; omega) | skip)
    all_goals by_cases c3 : a < i <;> by_cases c6 : E < e <;> (first | (exfalso; omega) | skip)
    all_goals
      (try have e1 := n1 (by omega)
       try have e2 := n2 (by omega)
       try have e3 := n3 (by omega)
       clear n1 n2 n3
       try subst e1
       try subst e2
       try subst e3
       clear lA lB lC lD sA sB sC sD QA QB QC QD hL hR hQL hQR hL0 hR0 hsL htR hn hNe hi hmi hEm hm he)
    all_goals
      (simp (maxSteps := 4000000) [List.getElem?_cons_zero, List.getElem?_cons_succ, -Prod.forall, v1, c1, c2, c3, c4, c5, c6, hrot', hm1', hm2']
       try rw [need_of hlow])
end Go.Proofs.Tryz.Ai
end
section
/- Sorting a row of texts: all of it. -/
namespace Go.Proofs.Tryz.Ai
open Go Go.AI Go.Proofs
set_option maxHeartbeats 2000000
set_option linter.unusedVariables false

theorem stable_eqL {g : Nat} {c : ((List UInt8 × List UInt8) × Int × List UInt8) → ((List UInt8 × List UInt8) × Int × List UInt8) → Int} {Q : ((List UInt8 × List UInt8) × Int × List UInt8) → Prop} (h : CmpOkL g c Q) (b : Nat) (σ : List (List AV)) (L : List ((List UInt8 × List UInt8) × Int × List UInt8)) (n : Nat) (hL : ∀ x ∈ L, Q x) (hn : L.length = n) (hN : n ≤ 2 ^ 30) (hb : b < σ.length) :
    ev 128 [.ms 42 4 b 0 n, .int .i64 n, .fn g []] (σ.set b (rowE esL L)) = some (.tup [], σ.set b (rowE esL (isrt c L))) := by
  refine EV_post rfl Tryz.func128 rfl (by simp [Tryz.ntmps128]) (by kernel_rfl) (by kernel_rfl) ?_
  simp (maxSteps := 4000000) [List.getElem?_cons_zero, List.getElem?_cons_succ, -Prod.forall]
  refine Post_loop (I := fun q : Nat => ⟨[(0, .ms 42 4 b 0 n), (1, .int .i64 n), (2, .fn g []), (6, .int .i64 20), (7, .int .i64 ((20 * q : Nat) : Int)), (8, .int .i64 ((20 * q + 20 : Nat) : Int))], [], σ.set b (rowE esL (blk c 20 (L.take (20 * q)) ++ L.drop (20 * q)))⟩)
    (Pr := fun q => 20 * q ≤ n) (μ := fun q => n - 20 * q) (a := 0) (by simp [blk_small, isrt]) (by simp) ?_
  intro q hq
  obtain ⟨a, ha⟩ : ∃ a, 20 * q = a := ⟨_, rfl⟩
  rw [ha] at hq ⊢
  have hpl : (blk c 20 (L.take a)).length = a := by rw [blk_len]; simp; omega
  by_cases hc : a + 20 ≤ n
  · have hX : L.drop a = (L.drop a).take 20 ++ L.drop (a + 20) := by rw [← List.drop_drop, List.take_append_drop]
    have hins := insertion_eqL h b σ (blk c 20 (L.take a)) ((L.drop a).take 20) (L.drop (a + 20)) (fun x hx => hL x (List.mem_of_mem_drop (List.mem_of_mem_take hx))) n a (a + 20) hN (by rw [hpl]; simp; omega) hpl.symm (by simp; omega) hb
    rw [← hX, ← List.append_assoc, ← blk_next (by omega) q ha.symm (by omega)] at hins
    have w1 : IntKind.i64.wrap (((a + 20 : Nat) : Int) + 20) = ((a + 20 + 20 : Nat) : Int) := by rw [wrap64 (by omega)]; omega
    obtain ⟨a2, ha2⟩ : ∃ z, a + 20 = z := ⟨_, rfl⟩
    rw [ha2] at hins w1 hc ⊢
    simp (maxSteps := 4000000) [List.getElem?_cons_zero, List.getElem?_cons_succ, -Prod.forall, hc, hins, w1]
    refine ⟨q + 1, by omega, by omega, by omega, ?_⟩
    rw [show 20 * (q + 1) = a2 by omega]
  · obtain ⟨a2, ha2⟩ : ∃ z, a + 20 = z := ⟨_, rfl⟩
    have hins := insertion_eqL h b σ (blk c 20 (L.take a)) (L.drop a) [] (fun x hx => hL x (List.mem_of_mem_drop hx)) n a n hN (by rw [hpl]; simp; omega) hpl.symm (by simp; omega) hb
    rw [List.append_nil, List.append_nil, ← blk_last (by omega) q ha.symm (by omega) (by omega)] at hins
    rw [ha2] at hc ⊢
    simp (maxSteps := 4000000) [List.getElem?_cons_zero, List.getElem?_cons_succ, -Prod.forall, hc, hins]
    refine Post_loop (I := fun k : Nat => ⟨[(0, .ms 42 4 b 0 n), (1, .int .i64 n), (2, .fn g []), (6, .int .i64 k)], [], σ.set b (rowE esL (blk c k L))⟩)
      (Pr := fun k => 0 < k ∧ k ≤ 2 ^ 31) (μ := fun k => n - k) (a := 20) (by simp) (by simp) ?_
    clear hins hpl hc ha ha2 hq
    rintro k ⟨hk0, hk⟩
    by_cases hkn : k < n
    · have w1 : IntKind.i64.wrap (2 * (k : Int)) = ((2 * k : Nat) : Int) := by rw [wrap64 (by omega)]; omega
      obtain ⟨k2, hk2⟩ : ∃ z, 2 * k = z := ⟨_, rfl⟩
      rw [hk2] at w1
      simp (maxSteps := 4000000) [List.getElem?_cons_zero, List.getElem?_cons_succ, -Prod.forall, hkn, w1]
      refine Post_loop (I := fun q : Nat => ⟨[(0, .ms 42 4 b 0 n), (1, .int .i64 n), (2, .fn g []), (6, .int .i64 k), (7, .int .i64 ((k2 * q : Nat) : Int)), (8, .int .i64 ((k2 * q + k2 : Nat) : Int))], [], σ.set b (rowE esL (blk c k2 (L.take (k2 * q)) ++ blk c k (L.drop (k2 * q))))⟩)
        (Pr := fun q => k2 * q ≤ n) (μ := fun q => n - k2 * q) (a := 0) (by simp [blk_small, isrt]) (by simp) ?_
      intro q hq
      obtain ⟨a, ha⟩ : ∃ a, k2 * q = a := ⟨_, rfl⟩
      have hq1 : k2 * (q + 1) = a + k2 := by rw [Nat.mul_succ, ha]
      rw [ha] at hq ⊢
      have hpl : (blk c k2 (L.take a)).length = a := by rw [blk_len]; simp; omega
      have hw3 : IntKind.i64.wrap ((a : Int) + k) = ((a + k : Nat) : Int) := by rw [wrap64 (by omega)]; omega
      have hS1 := isrt_srt' h.tp ((L.drop a).take k)
      have hQ1 : ∀ x ∈ isrt c ((L.drop a).take k), Q x := fun x hx => hL x (List.mem_of_mem_drop (List.mem_of_mem_take (isrt_mem.1 hx)))
      by_cases hc : a + k2 ≤ n
      · have e1 : blk c k (L.drop a) = isrt c ((L.drop a).take k) ++ (isrt c ((L.drop (a + k)).take k) ++ blk c k (L.drop (a + k2))) := by
          rw [blk_step hk0, List.drop_drop, blk_step hk0 (L.drop (a + k)), List.drop_drop]
          congr 4; omega
        have hQ2 : ∀ x ∈ isrt c ((L.drop (a + k)).take k), Q x := fun x hx => hL x (List.mem_of_mem_drop (List.mem_of_mem_take (isrt_mem.1 hx)))
        have hm := merge_eqL h _ b σ (blk c k2 (L.take a)) (isrt c ((L.drop a).take k)) (isrt c ((L.drop (a + k)).take k)) (blk c k (L.drop (a + k2))) n a (a + k) (a + k2) rfl hN (by rw [hpl, isrt_len, isrt_len, blk_len]; simp; omega) hpl.symm (by rw [isrt_len]; simp; omega) (by rw [isrt_len]; simp; omega) (by rw [isrt_len]; simp; omega) (by rw [isrt_len]; simp; omega) hS1 (isrt_srt' h.tp _) hQ1 hQ2 hb
        rw [← e1, ← isrt_mrg h.tp, ← List.drop_drop, ← List.take_add, ← List.append_assoc, show k + k = k2 by omega, ← blk_next (by omega) q ha.symm (by omega)] at hm
        obtain ⟨m, hmm⟩ : ∃ z, a + k = z := ⟨_, rfl⟩
        obtain ⟨a2, ha2⟩ : ∃ z, a + k2 = z := ⟨_, rfl⟩
        have w4 : IntKind.i64.wrap ((a2 : Int) + k2) = ((a2 + k2 : Nat) : Int) := by rw [wrap64 (by omega)]; omega
        rw [hmm, ha2] at hm
        rw [hmm] at hw3
        rw [ha2] at hc hq1 ⊢
        simp (maxSteps := 4000000) [List.getElem?_cons_zero, List.getElem?_cons_succ, -Prod.forall, hc, hm, hw3, w1, w4]
        refine ⟨q + 1, by omega, by omega, by rw [← hq1]; simp, ?_⟩
        rw [hq1]
      · obtain ⟨a2, ha2⟩ : ∃ z, a + k2 = z := ⟨_, rfl⟩
        rw [ha2] at hc ⊢
        have w5 : IntKind.i64.wrap ((k : Int) * 2) = (k2 : Int) := by rw [wrap64 (by omega)]; omega
        have hfin : blk c k2 L = blk c k2 (L.take a) ++ isrt c (L.drop a) := blk_last (by omega) q ha.symm (by omega) (by omega)
        obtain ⟨m, hmm⟩ : ∃ z, a + k = z := ⟨_, rfl⟩
        rw [hmm] at hw3
        by_cases hmn : m < n
        · have e1 : blk c k (L.drop a) = isrt c ((L.drop a).take k) ++ isrt c (L.drop m) := by
            rw [blk_step hk0, List.drop_drop, hmm, blk_small (L := L.drop m) (by simp; omega)]
          have hQ2 : ∀ x ∈ isrt c (L.drop m), Q x := fun x hx => hL x (List.mem_of_mem_drop (isrt_mem.1 hx))
          have hm := merge_eqL h _ b σ (blk c k2 (L.take a)) (isrt c ((L.drop a).take k)) (isrt c (L.drop m)) [] n a m n rfl hN (by rw [hpl, isrt_len, isrt_len]; simp; omega) hpl.symm (by rw [isrt_len]; simp; omega) (by rw [isrt_len]; simp; omega) (by rw [isrt_len]; simp; omega) (by rw [isrt_len]; simp; omega) hS1 (isrt_srt' h.tp _) hQ1 hQ2 hb
          rw [List.append_nil, List.append_nil, ← e1, ← isrt_mrg h.tp, ← hmm, ← List.drop_drop, List.take_append_drop, hmm, ← hfin] at hm
          simp (maxSteps := 4000000) [List.getElem?_cons_zero, List.getElem?_cons_succ, -Prod.forall, hc, hm, hw3, hmn, w5]
          exact ⟨k2, by omega, by omega, rfl, rfl⟩
        · have e1 : blk c k2 (L.take a) ++ blk c k (L.drop a) = blk c k2 L := by rw [hfin, blk_small (L := L.drop a) (by simp; omega)]
          rw [e1]
          simp (maxSteps := 4000000) [List.getElem?_cons_zero, List.getElem?_cons_succ, -Prod.forall, hc, hw3, hmn, w5]
          exact ⟨k2, by omega, by omega, rfl, rfl⟩
    · rw [blk_small (by omega)]
      simp (maxSteps := 4000000) [List.getElem?_cons_zero, List.getElem?_cons_succ, -Prod.forall, hkn, Tryz.results128]
theorem sortStable_eqL {g : Nat} {c : ((List UInt8 × List UInt8) × Int × List UInt8) → ((List UInt8 × List UInt8) × Int × List UInt8) → Int} {Q : ((List UInt8 × List UInt8) × Int × List UInt8) → Prop} (h : CmpOkL g c Q) (b : Nat) (σ : List (List AV)) (L : List ((List UInt8 × List UInt8) × Int × List UInt8)) (n : Nat) (hL : ∀ x ∈ L, Q x) (hn : L.length = n) (hN : n ≤ 2 ^ 30) (hb : b < σ.length) :
    ev 82 [.ms 42 4 b 0 n, .fn g []] (σ.set b (rowE esL L)) = some (.tup [], σ.set b (rowE esL (isrt c L))) := by
  have h1 := stable_eqL h b σ L n hL hn hN hb
  refine EV_post rfl Tryz.func82 rfl (by simp [Tryz.ntmps82]) (by kernel_rfl) (by kernel_rfl) ?_
  simp (maxSteps := 4000000) [List.getElem?_cons_zero, List.getElem?_cons_succ, -Prod.forall, h1, Tryz.results82]
end Go.Proofs.Tryz.Ai
end
section
/- sumfile: lines in order; Parse. -/
namespace Go.Proofs.Tryz.Ai
open Go Go.AI Go.Proofs Go.B64
set_option maxHeartbeats 8000000
set_option maxRecDepth 4000
set_option linter.unusedVariables false

theorem TO.intC : TO intC := by
  refine ⟨fun a b => ?_, fun a b => ?_, fun a b e => ?_, fun a b => ?_⟩ <;> unfold Ai.intC <;> (repeat' split) <;> omega
/-- the order of lines -/
def lnC (x y : Ln) : Int := orI (modC x.1 y.1) (intC x.2.1 y.2.1)
theorem TP.lnC : TP lnC := by
  have h := (TO.modC.prod TO.intC).tp.comap (fun x : Ln => (x.1, x.2.1))
  exact h
def lnM (x : Ln) : Prop := modQ x.1
theorem order_eqL (a b : Ln) (ha : lnM a) (hb : lnM b) (σ) : ev 83 [lnF a, lnF b] σ = some (.int .i64 (lnC a b), σ) := by
  have h1 := Less_eq a.1 b.1 ha hb
  have h2 := Less_eq b.1 a.1 hb ha
  have h3 := cmpInt_eq a.2.1 b.2.1
  have hfl := TO.modC.flip a.1 b.1
  have hsg := TO.modC.sgn a.1 b.1
  have hC : lnC a b = orI (modC a.1 b.1) (intC a.2.1 b.2.1) := rfl
  rw [hC]
  obtain ⟨⟨a1, a2⟩, a3, a4⟩ := a
  obtain ⟨⟨b1, b2⟩, b3, b4⟩ := b
  simp only [lnFx] at h1 h2 h3 hfl hsg ⊢
  obtain ⟨M, hM⟩ : ∃ M, modC (a1, a2) (b1, b2) = M := ⟨_, rfl⟩
  rw [hM] at h1 hfl hsg ⊢
  rw [hfl] at h2
  refine EV_post rfl Tryz.func83 rfl (by simp [Tryz.ntmps83]) (by kernel_rfl) (by kernel_rfl) ?_
  rcases hsg with rfl | rfl | rfl
  · have hA : orI (-1) (intC a3 b3) = -1 := rfl
    have e1 : decide ((-1 : Int) < 0) = true := by decide
    rw [e1] at h1
    simp (maxSteps := 4000000) [List.getElem?_cons_zero, List.getElem?_cons_succ, h1, hA, Tryz.results83]
  · have hA : orI 0 (intC a3 b3) = intC a3 b3 := rfl
    have e1 : decide ((0 : Int) < 0) = false := by decide
    have e2 : decide (-(0 : Int) < 0) = false := by decide
    rw [e1] at h1
    rw [e2] at h2
    simp (maxSteps := 4000000) [List.getElem?_cons_zero, List.getElem?_cons_succ, h1, h2, h3, hA, Tryz.results83]
  · have hA : orI 1 (intC a3 b3) = 1 := rfl
    have e1 : decide ((1 : Int) < 0) = false := by decide
    have e2 : decide (-(1 : Int) < 0) = true := by decide
    rw [e1] at h1
    rw [e2] at h2
    simp (maxSteps := 4000000) [List.getElem?_cons_zero, List.getElem?_cons_succ, h1, h2, hA, Tryz.results83]
theorem cmp_okL : CmpOkL 83 lnC lnM := ⟨TP.lnC, by decide, fun x y hx hy σ => order_eqL x y hx hy σ⟩
theorem row_esL (l : List Ln) : rowE esL l = flat (l.map lnF) := by
  induction l with
  | nil => rfl
  | cons a l ih => unfold rowE at *; rw [List.flatMap_cons, ih, List.map_cons, flat_cons]; rfl
theorem insertion_nilL (g : Nat) (σ : List (List AV)) : ev 159 [.sl .sh [], .int .i64 0, .int .i64 0, .fn g []] σ = some (.tup [], σ) := by
  refine EV_post rfl Tryz.func159 rfl (by simp [Tryz.ntmps159]) (by kernel_rfl) (by kernel_rfl) ?_
  have w : IntKind.i64.wrap 1 = 1 := by decide
  simp (maxSteps := 4000000) [List.getElem?_cons_zero, List.getElem?_cons_succ, w]
  refine Post_loop (I := fun q : Nat => ⟨[(0, .sl .sh []), (1, .int .i64 0), (2, .int .i64 0), (3, .fn g []), (8, .int .i64 1)], [], σ⟩) (Pr := fun q => True) (μ := fun q => q) (a := 0) (by simp) (by simp) ?_
  intro q hq
  simp (maxSteps := 4000000) [List.getElem?_cons_zero, List.getElem?_cons_succ, ]
theorem stable_nilL (g : Nat) (σ : List (List AV)) : ev 128 [.sl .sh [], .int .i64 0, .fn g []] σ = some (.tup [], σ) := by
  have hI := insertion_nilL g
  refine EV_post rfl Tryz.func128 rfl (by simp [Tryz.ntmps128]) (by kernel_rfl) (by kernel_rfl) ?_
  simp (maxSteps := 4000000) [List.getElem?_cons_zero, List.getElem?_cons_succ, ]
  refine Post_loop (I := fun q : Nat => ⟨[(0, .sl .sh []), (1, .int .i64 0), (2, .fn g []), (6, .int .i64 20), (7, .int .i64 0), (8, .int .i64 20)], [], σ⟩) (Pr := fun q => True) (μ := fun q => q) (a := 0) (by simp) (by simp) ?_
  intro q hq
  simp (maxSteps := 4000000) [List.getElem?_cons_zero, List.getElem?_cons_succ, hI]
  refine Post_loop (I := fun q : Nat => ⟨[(0, .sl .sh []), (1, .int .i64 0), (2, .fn g []), (6, .int .i64 20)], [], σ⟩) (Pr := fun q => True) (μ := fun q => q) (a := 0) (by simp) (by simp) ?_
  intro q hq
  simp (maxSteps := 4000000) [List.getElem?_cons_zero, List.getElem?_cons_succ, Tryz.results128]
theorem sortStable_nilL (g : Nat) (σ : List (List AV)) : ev 82 [.sl .sh [], .fn g []] σ = some (.tup [], σ) := by
  have h1 := stable_nilL g
  refine EV_post rfl Tryz.func82 rfl (by simp [Tryz.ntmps82]) (by kernel_rfl) (by kernel_rfl) ?_
  simp (maxSteps := 4000000) [List.getElem?_cons_zero, List.getElem?_cons_succ, h1, Tryz.results82]
theorem els_rowL (l : List Ln) : els2 true 4 4 (flat (l.map lnF)) 0 l.length = some (l.map lnF) := by
  rw [els2_agg, if_pos (by rw [← row_esL, es_lenL]; omega)]
  congr 1
  apply List.ext_getElem?
  intro i
  by_cases hi : i < l.length
  · obtain ⟨x, hx⟩ : ∃ x, l[i]? = some x := ⟨_, List.getElem?_eq_getElem hi⟩
    have := es_getL hx
    rw [List.getElem?_map, List.getElem?_range hi, List.getElem?_map, hx, ← row_esL]
    simp only [Option.map_some, Nat.zero_add, this]; rfl
  · rw [List.getElem?_eq_none (by simpa using Nat.le_of_not_lt hi), List.getElem?_eq_none (by simpa using Nat.le_of_not_lt hi)]
theorem ordered_eq (l : List Ln) (hl : l.length ≤ 2 ^ 30) (hQ : ∀ x ∈ l, lnM x) (σ : List (List AV)) :
    ev 45 [.sl .sh (l.map lnF)] σ = some (.sl (.ex 42 4) ((isrt lnC l).map lnF), σ) := by
  cases l with
  | nil =>
    have hS := sortStable_nilL 83
    refine EV_post rfl Tryz.func45 rfl (by simp [Tryz.ntmps45]) (by kernel_rfl) (by kernel_rfl) ?_
    simp (maxSteps := 4000000) [List.getElem?_cons_zero, List.getElem?_cons_succ, hS, isrt, Tryz.results45]
  | cons x r =>
    have hS := sortStable_eqL cmp_okL σ.length (σ ++ [[]]) (x :: r) (r.length + 1) hQ (by simp) (by simpa using hl) (by simp)
    rw [row_esL, row_esL] at hS
    obtain ⟨L, hL⟩ : ∃ L, isrt lnC (x :: r) = L := ⟨_, rfl⟩
    have hLl : L.length = r.length + 1 := by rw [← hL, isrt_len]; simp
    have hE := els_rowL L
    rw [hL] at hS ⊢
    rw [hLl] at hE
    have hlow : lowL σ.length (L.map lnF) := by simp [lnF]
    have hall : allCells 4 (r.map lnF) := by simp
    simp [lnF] at hS hl
    refine EV_post rfl Tryz.func45 rfl (by simp [Tryz.ntmps45]) (by kernel_rfl) (by kernel_rfl) ?_
    simp (maxSteps := 4000000) [List.getElem?_cons_zero, List.getElem?_cons_succ, hS, hE, hlow, hall, lnF, Tryz.results45]
    repeat (rw [need_of]; rotate_left; (· (try unfold most); omega); simp (maxSteps := 4000000) [List.getElem?_cons_zero, List.getElem?_cons_succ, hS, hE, hlow, hall, lnF, Tryz.results45])
theorem lineR_len (l : List Ln) (s : List UInt8) : (lineR l s).1.length ≤ l.length + 1 := by
  unfold lineR
  split
  · split
    · simp
    · simp
  · simp
/-- all that is read is as the lines say -/
theorem linesP_mem {read : List Ln → List UInt8 → List Ln × Int} {Q : Ln → Prop} {R : List (List UInt8)} (hq : ∀ l s, s ∈ R → (∀ x ∈ l, Q x) → (read l s).2 = 0 → ∀ x ∈ (read l s).1, Q x) : ∀ (r : List (List UInt8)) (l : List Ln) (n : Nat), (∀ s ∈ r, s ∈ R) → (∀ x ∈ l, Q x) → ∀ l', linesP read l n r = .inl l' → ∀ x ∈ l', Q x := by
  intro r
  induction r with
  | nil => intro l n hr h l' e; rw [linesP] at e; injection e with e; subst e; exact h
  | cons x r ih =>
    intro l n hr h l' e
    by_cases h0 : (read l x).2 = 0
    · cases r with
      | nil =>
        by_cases hx : x = []
        · subst hx; rw [linesP_nil] at e; injection e with e; subst e; exact h
        · rw [linesP_end hx h0] at e; cases e
      | cons y r =>
        rw [linesP_next (by simp) h0] at e
        exact ih _ _ (fun s hs => hr s (List.mem_cons_of_mem _ hs)) (hq l x (hr x (List.mem_cons_self ..)) h h0) l' e
    · cases r with
      | nil =>
        by_cases hx : x = []
        · subst hx; rw [linesP_nil] at e; injection e with e; subst e; exact h
        · rw [linesP_bad (.inl hx) h0] at e; cases e
      | cons y r => rw [linesP_bad (.inr (by simp)) h0] at e; cases e
theorem linesP_err {read : List Ln → List UInt8 → List Ln × Int} : ∀ (r : List (List UInt8)) (l : List Ln) (n n' : Nat) (e : Int), linesP read l n r = .inr (n', e) → e ≠ 0 := by
  intro r
  induction r with
  | nil => intro l n n' e h; rw [linesP] at h; cases h
  | cons x r ih =>
    intro l n n' e h
    by_cases h0 : (read l x).2 = 0
    · cases r with
      | nil =>
        by_cases hx : x = []
        · subst hx; rw [linesP_nil] at h; cases h
        · rw [linesP_end hx h0] at h; injection h with h; injection h with _ h; subst h; decide
      | cons y r =>
        rw [linesP_next (by simp) h0] at h
        exact ih _ _ _ _ h
    · cases r with
      | nil =>
        by_cases hx : x = []
        · subst hx; rw [linesP_nil] at h; cases h
        · rw [linesP_bad (.inl hx) h0] at h; injection h with h; injection h with _ h; subst h; exact h0
      | cons y r => rw [linesP_bad (.inr (by simp)) h0] at h; injection h with h; injection h with _ h; subst h; exact h0
theorem linesP_len {read : List Ln → List UInt8 → List Ln × Int} (hlen : ∀ l s, (read l s).1.length ≤ l.length + 1) : ∀ (r : List (List UInt8)) (l : List Ln) (n : Nat) (l' : List Ln), linesP read l n r = .inl l' → l'.length ≤ l.length + r.length := by
  intro r
  induction r with
  | nil => intro l n l' e; rw [linesP] at e; injection e with e; subst e; simp
  | cons x r ih =>
    intro l n l' e
    by_cases h0 : (read l x).2 = 0
    · cases r with
      | nil =>
        by_cases hx : x = []
        · subst hx; rw [linesP_nil] at e; injection e with e; subst e; simp
        · rw [linesP_end hx h0] at e; cases e
      | cons y r =>
        rw [linesP_next (by simp) h0] at e
        have h1 := ih _ _ _ e
        have h2 := hlen l x
        simp only [List.length_cons] at h1 ⊢
        omega
    · cases r with
      | nil =>
        by_cases hx : x = []
        · subst hx; rw [linesP_nil] at e; injection e with e; subst e; simp
        · rw [linesP_bad (.inl hx) h0] at e; cases e
      | cons y r => rw [linesP_bad (.inr (by simp)) h0] at e; cases e
theorem lineR_mem {Q : Ln → Prop} {l : List Ln} {s : List UInt8} (hl : ∀ x ∈ l, Q x) (h : ∀ p v h, splitB 32 s = [p, v, h] → Q (mkLn p v h)) : ∀ x ∈ (lineR l s).1, Q x := by
  unfold lineR
  split
  · rename_i p v w hw
    split
    · simp
    · intro x hx
      rcases List.mem_append.1 hx with hx | hx
      · exact hl x hx
      · simp only [List.mem_singleton] at hx; subst hx; exact h p v w hw
  · simp
theorem mkLn_len {p v h s : List UInt8} (e : splitB 32 s = [p, v, h]) : (mkLn p v h).1.1.length ≤ s.length ∧ (mkLn p v h).1.2.length ≤ s.length ∧ (mkLn p v h).2.2.length ≤ s.length := by
  have h1 : p.length ≤ s.length := splitB_le (c := 32) (by rw [e]; simp)
  have h2 : v.length ≤ s.length := splitB_le (c := 32) (by rw [e]; simp)
  have h3 : h.length ≤ s.length := splitB_le (c := 32) (by rw [e]; simp)
  unfold mkLn
  split
  · exact ⟨h1, by simp; omega, h3⟩
  · exact ⟨h1, h2, h3⟩
def parseP (text : List UInt8) : List Ln × Nat × Int := if 65536 < text.length then ([], 0, 13) else match linesP lineR [] 0 (splitB 10 text) with
  | .inl l => (isrt lnC l, 0, 0)
  | .inr (n, e) => ([], n, e)
theorem parse_low {text : List UInt8} {l : List Ln} (h : linesP lineR [] 0 (splitB 10 text) = .inl l) : ∀ x ∈ l, x.1.1.length ≤ text.length ∧ x.1.2.length ≤ text.length ∧ x.2.2.length ≤ text.length := by
  refine linesP_mem (R := splitB 10 text) (fun l s hs hl _ => lineR_mem hl fun p v w e => ?_) _ [] 0 (fun s hs => hs) (by simp) l h
  have h1 := mkLn_len e
  have h2 : s.length ≤ text.length := splitB_le hs
  omega
theorem Parse_eq (text : List UInt8) (hs : text.length ≤ 2 ^ 27) (σ) : ev 23 [.str text] σ = some (.tup [.sl .sh ((parseP text).1.map lnF), .int .i64 (parseP text).2.1, .int .i64 (parseP text).2.2], σ) := by
  have hL := lines_eq text hs 51 (by decide) [] lineR lineR_len (fun l s σ h1 h2 => line_eq l h1 s h2 σ)
  refine EV_post rfl Tryz.func23 rfl (by simp [Tryz.ntmps23]) (by kernel_rfl) (by kernel_rfl) ?_
  by_cases hc : 65536 < text.length
  · have hp : parseP text = ([], 0, 13) := by unfold parseP; rw [if_pos hc]
    rw [if_pos hc] at hL
    simp (maxSteps := 4000000) [List.getElem?_cons_zero, List.getElem?_cons_succ, hL, hp, Tryz.results23]
  · rw [if_neg hc] at hL
    cases hq : linesP lineR [] 0 (splitB 10 text) with
    | inl l =>
      have hp : parseP text = (isrt lnC l, 0, 0) := by unfold parseP; rw [if_neg hc, hq]
      rw [hq] at hL
      simp only [linesAV] at hL
      have hll := linesP_len lineR_len _ _ _ _ hq
      have hm := splitB_many 10 text
      have hlow := parse_low hq
      have hO := ordered_eq l (by simp at hll; omega) (fun x hx => ⟨by have := (hlow x hx).1; omega, by have := (hlow x hx).2.1; omega⟩)
      simp (maxSteps := 4000000) [List.getElem?_cons_zero, List.getElem?_cons_succ, hL, hO, hp, Tryz.results23]
    | inr r =>
      obtain ⟨n, e⟩ := r
      have he := linesP_err _ _ _ _ _ hq
      have hp : parseP text = ([], n, e) := by unfold parseP; rw [if_neg hc, hq]
      rw [hq] at hL
      simp only [linesAV] at hL
      simp (maxSteps := 4000000) [List.getElem?_cons_zero, List.getElem?_cons_succ, hL, he, hp, Tryz.results23]
end Go.Proofs.Tryz.Ai
end
section
/- mewslaw5.first: yes. -/
namespace Go.Proofs.Tryz.Ai
open Go Go.AI Go.Proofs Go.B64
set_option maxHeartbeats 8000000
set_option maxRecDepth 4000
set_option linter.unusedVariables false

def fsum : List UInt8 := [104, 49, 58, 71, 66, 51, 86, 43, 82, 72, 89, 74, 48, 70, 104, 53, 121, 86, 100, 107, 114, 47, 70, 74, 50, 78, 76, 120, 120, 85, 47, 106, 99, 81, 102, 79, 117, 101, 74, 51, 49, 88, 99, 69, 80, 69, 61]
theorem fsum_ok : sumB fsum = true := by decide +kernel
theorem fcheck : checkB [97, 46, 98, 47, 99] [118, 49, 46, 48, 46, 48] = 0 := by decide +kernel
def ft1 : List UInt8 := [97, 46, 98, 47, 99, 32, 118, 49, 46, 48, 46, 48, 47, 103, 111, 46, 109, 111, 100, 32, 104, 49, 58, 71, 66, 51, 86, 43, 82, 72, 89, 74, 48, 70, 104, 53, 121, 86, 100, 107, 114, 47, 70, 74, 50, 78, 76, 120, 120, 85, 47, 106, 99, 81, 102, 79, 117, 101, 74, 51, 49, 88, 99, 69, 80, 69, 61, 10]
def ft2 : List UInt8 := [97, 46, 98, 47, 99, 32, 32, 118, 49, 46, 48, 46, 48, 32, 104, 49, 58, 71, 66, 51, 86, 43, 82, 72, 89, 74, 48, 70, 104, 53, 121, 86, 100, 107, 114, 47, 70, 74, 50, 78, 76, 120, 120, 85, 47, 106, 99, 81, 102, 79, 117, 101, 74, 51, 49, 88, 99, 69, 80, 69, 61, 10]
theorem fp1 : parseP ft1 = ([(([97, 46, 98, 47, 99], [118, 49, 46, 48, 46, 48]), 1, fsum)], 0, 0) := by
  have h1 : splitB 10 ft1 = [ft1.take 67, []] := by decide +kernel
  have h2 : splitB 32 (ft1.take 67) = [[97, 46, 98, 47, 99], [118, 49, 46, 48, 46, 48, 47, 103, 111, 46, 109, 111, 100], fsum] := by decide +kernel
  have h3 : mkLn [97, 46, 98, 47, 99] [118, 49, 46, 48, 46, 48, 47, 103, 111, 46, 109, 111, 100] fsum = (([97, 46, 98, 47, 99], [118, 49, 46, 48, 46, 48]), 1, fsum) := by
    unfold mkLn; rw [if_pos (by decide)]; rfl
  have h4 : lineR [] (ft1.take 67) = ([(([97, 46, 98, 47, 99], [118, 49, 46, 48, 46, 48]), 1, fsum)], 0) := by
    unfold lineR
    rw [h2]
    simp only
    rw [if_neg (by simp [fsum]), h3]
    have : checkL [] (([97, 46, 98, 47, 99], [118, 49, 46, 48, 46, 48]), 1, fsum) = 0 := by
      unfold checkL
      simp only [fcheck, fsum_ok]
      simp
    rw [this]; rfl
  unfold parseP
  rw [if_neg (by decide), h1, linesP_next (by simp) (by rw [h4]), h4, linesP_nil]
  rfl
theorem fp2 : parseP ft2 = ([], 1, 11) := by
  have h1 : splitB 10 ft2 = [ft2.take 61, []] := by decide +kernel
  have h2 : (splitB 32 (ft2.take 61)).length ≠ 3 := by decide +kernel
  unfold parseP
  rw [if_neg (by decide), h1, linesP_bad (.inr (by simp)) (by rw [lineR_not h2]; decide), lineR_not h2]
theorem fg1 : globB [97, 63, 99] [97, 98, 99] = true := by
  rw [globB_iff, MG_one (by decide)]
  refine ⟨97, _, rfl, .inl rfl, ?_⟩
  rw [MG_one (by decide)]
  refine ⟨98, _, rfl, .inr ⟨rfl, by decide⟩, ?_⟩
  rw [MG_one (by decide)]
  exact ⟨99, _, rfl, .inl rfl, rfl⟩
theorem fg2 : globB [42] [97, 47, 98] = false := by
  rw [Bool.eq_false_iff, Ne, globB_iff, MG_star]
  rintro ⟨x, t, h, hx, ht⟩
  cases ht
  rw [List.append_nil] at h
  subst h
  exact hx (by decide)
theorem first_eq (σ) : ev 11 [] σ = some (.bool true, σ) := by
  have h1 := Parse_eq ft1 (by decide)
  have h2 := Parse_eq ft2 (by decide)
  have h3 := ValidSum_eq fsum (by decide)
  have h4 := ValidSum_eq [104, 49, 58, 97, 98, 99] (by decide)
  have h5 : sumB [104, 49, 58, 97, 98, 99] = false := by decide +kernel
  have h6 := Glob_eq [97, 63, 99] [97, 98, 99] (by decide) (by decide)
  have h7 := Glob_eq [42] [97, 47, 98] (by decide) (by decide)
  have h8 := fun e => Num_eq e
  rw [fp1] at h1
  rw [fp2] at h2
  rw [fsum_ok] at h3
  rw [h5] at h4
  rw [fg1] at h6
  rw [fg2] at h7
  simp only [List.map_cons, List.map_nil, lnFx] at h1 h2
  unfold ft1 fsum at h1
  unfold ft2 at h2
  unfold fsum at h3
  refine EV_post rfl Tryz.func11 rfl (by simp [Tryz.ntmps11]) (by kernel_rfl) (by kernel_rfl) ?_
  simp (maxSteps := 4000000) [List.getElem?_cons_zero, List.getElem?_cons_succ, h1, h2, h3, h4, h6, h7, h8, Tryz.results11]
end Go.Proofs.Tryz.Ai
end
section
/- Base64: both sides write it. -/
namespace Go.Proofs.Tryz.Ai
open Go Go.AI Go.Proofs Go.B64
set_option maxHeartbeats 4000000
set_option maxRecDepth 4000
set_option linter.unusedVariables false

theorem fdivp (m l : Nat) : (m : Int).fdiv (2 ^ l) = ((m / 2 ^ l : Nat) : Int) := by
  rw [Int.fdiv_eq_ediv_of_nonneg _ (by exact Int.le_of_lt (Int.pow_pos (by omega)))]
  simp
/-- a Builder's box in a state whose first boxes are as they came -/
def BInv (σ S : List (List AV)) (q : Option (List UInt8)) : Prop := S[σ.length]? = some (bc σ.length q) ∧ S.take σ.length = σ
theorem BInv.lt {σ S : List (List AV)} {q : Option (List UInt8)} (h : BInv σ S q) : σ.length < S.length := (List.getElem?_eq_some_iff.1 h.1).1
theorem BInv.set {σ S : List (List AV)} {q : Option (List UInt8)} (h : BInv σ S q) (q' : Option (List UInt8)) : BInv σ (S.set σ.length (bc σ.length q')) q' :=
  ⟨by rw [List.getElem?_set, if_pos rfl, if_pos h.lt], by rw [List.take_set_of_le (Nat.le_refl _)]; exact h.2⟩
theorem BInv.low {σ S : List (List AV)} {q : Option (List UInt8)} (h : BInv σ S q) (c : List AV) : lowS σ (S.set σ.length c) := fun b hb => .inl (by
  rw [List.getElem?_set, if_neg (by omega)]
  have := congrArg (fun l : List (List AV) => l[b]?) h.2
  simp only [List.getElem?_take, if_pos hb] at this
  exact this)
theorem BInv.start (σ : List (List AV)) : BInv σ (σ ++ [bc σ.length none]) none := ⟨by simp, by simp⟩
theorem L64_get (n : Nat) (h : n < 64) : ([65, 66, 67, 68, 69, 70, 71, 72, 73, 74, 75, 76, 77, 78, 79, 80, 81, 82, 83, 84, 85, 86, 87, 88, 89, 90, 97, 98, 99, 100, 101, 102, 103, 104, 105, 106, 107, 108, 109, 110, 111, 112, 113, 114, 115, 116, 117, 118, 119, 120, 121, 122, 48, 49, 50, 51, 52, 53, 54, 55, 56, 57, 43, 47] : List UInt8)[n]? = some (lt n) := lt_get ⟨n, h⟩
end Go.Proofs.Tryz.Ai
end
section
/- Base64: the document's side writes it. -/
namespace Go.Proofs.Tryz.Ai
open Go Go.AI Go.Proofs Go.B64
set_option maxHeartbeats 4000000
set_option maxRecDepth 4000
set_option linter.unusedVariables false

/-- as many full groups as there are bytes for, the last one filled up by zeros -/
def full64 : List UInt8 → List UInt8
  | [] => []
  | [a] => grp (a.toNat * 65536) 3
  | [a, b] => grp (a.toNat * 65536 + b.toNat * 256) 3
  | a :: b :: c :: r => grp (a.toNat * 65536 + b.toNat * 256 + c.toNat) 3 ++ full64 r
theorem full64_len (l : List UInt8) : (full64 l).length = 4 * ((l.length + 2) / 3) := by
  induction l using full64.induct with
  | case1 => rfl
  | case2 a => simp [full64, grp_len]
  | case3 a b => simp [full64, grp_len]
  | case4 a b c r ih => simp only [full64, List.length_append, List.length_cons, ih, grp_len]; omega
theorem set_app {k : Nat} (a b : List UInt8) (i : Nat) (x : UInt8) (h : i = a.length + k) : (a ++ b).set i x = a ++ b.set k x := by
  rw [h, List.set_append_right _ _ (by omega)]; congr 2; omega
/-- the signs at the end -/
theorem full64_sign (l : List UInt8) : (l.length % 3 = 0 → full64 l = b64 l) ∧ (l.length % 3 = 2 → 2 ≤ (full64 l).length ∧ (full64 l).set ((full64 l).length - 1) 61 = b64 l) ∧
    (l.length % 3 = 1 → 2 ≤ (full64 l).length ∧ ((full64 l).set ((full64 l).length - 2) 61).set ((full64 l).length - 1) 61 = b64 l) := by
  induction l using full64.induct with
  | case1 => simp [full64, b64]
  | case2 a =>
    refine ⟨fun h => by simp at h, fun h => by simp at h, fun _ => ⟨by simp [full64, grp_len], ?_⟩⟩
    rw [b64_one]; rfl
  | case3 a b =>
    refine ⟨fun h => by simp at h, fun _ => ⟨by simp [full64, grp_len], ?_⟩, fun h => by simp at h⟩
    rw [b64_two]; rfl
  | case4 a b c r ih =>
    obtain ⟨h0, h2, h1⟩ := ih
    simp only [List.length_cons]
    refine ⟨fun h => ?_, fun h => ?_, fun h => ?_⟩
    · rw [b64_three, full64, h0 (by omega)]
    · obtain ⟨k1, k2⟩ := h2 (by omega)
      simp only [full64, List.length_append, grp_len]
      refine ⟨by omega, ?_⟩
      rw [b64_three, set_app (k := (full64 r).length - 1) _ _ _ _ (by rw [grp_len]; omega), k2]
    · obtain ⟨k1, k2⟩ := h1 (by omega)
      simp only [full64, List.length_append, grp_len]
      refine ⟨by omega, ?_⟩
      rw [b64_three, set_app (k := (full64 r).length - 2) _ _ _ _ (by rw [grp_len]; omega), set_app (k := (full64 r).length - 1) _ _ _ _ (by rw [grp_len]; omega), k2]
theorem grp3 (x : Nat) : grp x 3 = [lt (x / 262144), lt (x / 4096 % 64), lt (x / 64 % 64), lt (x % 64)] := rfl
/-- what is written so far: nothing, or a box -/
def wAV (b : Nat) (w : List UInt8) : AV := match w with
  | [] => .sl (.ex 5 1) []
  | _ :: _ => .ms 5 1 b 0 w.length
theorem wAV_cons (b : Nat) (w : List UInt8) (h : w ≠ []) : wAV b w = .ms 5 1 b 0 w.length := by cases w with | nil => exact absurd rfl h | cons _ _ => rfl
theorem full64_cons (a : UInt8) (r0 : List UInt8) : full64 (a :: r0) = grp (a.toNat * 65536 + (r0.getD 0 0).toNat * 256 + (r0.getD 1 0).toNat) 3 ++ full64 (r0.drop 2) := by
  match r0 with
  | [] => simp [full64]
  | [b] => simp [full64]
  | b :: c :: r => simp [full64]
/-- a box of this call's own -/
def OInv (σ S : List (List AV)) (b : Nat) (w : List UInt8) : Prop := S.take σ.length = σ ∧ σ.length ≤ S.length ∧ (w ≠ [] → σ.length ≤ b ∧ S[b]? = some (w.map .u8))
theorem OInv.low {σ S : List (List AV)} {b : Nat} {w : List UInt8} (h : OInv σ S b w) : lowS σ S := fun k hk => .inl (by
  have := congrArg (fun l : List (List AV) => l[k]?) h.1
  simp only [List.getElem?_take, if_pos hk] at this
  exact this)
theorem OInv.first {σ S : List (List AV)} {b : Nat} {w : List UInt8} (h : OInv σ S b w) (w' : List UInt8) : OInv σ (S ++ [w'.map .u8]) S.length w' :=
  ⟨by rw [List.take_append_of_le_length h.2.1]; exact h.1, by have := h.2.1; simp only [List.length_append]; omega, fun _ => ⟨h.2.1, by simp⟩⟩
theorem OInv.next {σ S : List (List AV)} {b : Nat} {w : List UInt8} (h : OInv σ S b w) (hw : w ≠ []) (w' : List UInt8) : OInv σ (S.set b [] ++ [w'.map .u8]) S.length w' :=
  ⟨by rw [List.take_append_of_le_length (by simp; exact h.2.1), List.take_set_of_le (h.2.2 hw).1]; exact h.1, by have := h.2.1; simp only [List.length_append, List.length_set]; omega, fun _ => ⟨h.2.1, by simp⟩⟩
theorem OInv.write {σ S : List (List AV)} {b : Nat} {w : List UInt8} (h : OInv σ S b w) (hw : w ≠ []) (w' : List UInt8) : OInv σ (S.set b (w'.map .u8)) b w' :=
  ⟨by rw [List.take_set_of_le (h.2.2 hw).1]; exact h.1, by rw [List.length_set]; exact h.2.1, fun _ => ⟨(h.2.2 hw).1, by rw [List.getElem?_set, if_pos rfl, if_pos (List.getElem?_eq_some_iff.1 (h.2.2 hw).2).1]⟩⟩
theorem rBase64_eq (l : List UInt8) (hl : l.length ≤ 2 ^ 30) (σ : List (List AV)) : ev 102 [.sl .sh (l.map .u8)] σ = some (.str (b64 l), σ) := by
  refine EV_post rfl Tryz.func102 rfl (by simp [Tryz.ntmps102]) (by kernel_rfl) (by kernel_rfl) ?_
  simp (maxSteps := 4000000) [List.getElem?_cons_zero, List.getElem?_cons_succ, ]
  have hfl : (full64 l).length ≤ 2 ^ 31 := by rw [full64_len]; omega
  refine Post_loop (I := fun p : Nat × List UInt8 × Nat × List (List AV) => ⟨[(0, .sl .sh (l.map .u8)), (3, wAV p.2.2.1 p.2.1), (4, .int .i64 p.1)], [], p.2.2.2⟩)
    (Pr := fun p => p.1 ≤ l.length + 2 ∧ p.2.1 ++ full64 (l.drop p.1) = full64 l ∧ OInv σ p.2.2.2 p.2.2.1 p.2.1) (μ := fun p => l.length + 3 - p.1) (a := (0, [], 0, σ)) (by simp [wAV]) ⟨by simp, by simp, by simp, by simp, fun h => absurd rfl h⟩ ?_
  rintro ⟨i, w, b, S⟩ ⟨hi, he, hO⟩
  simp only at hi he hO ⊢
  have hwl : w.length ≤ 2 ^ 31 := by have := congrArg List.length he; simp at this; omega
  by_cases hc : i < l.length
  · obtain ⟨a, r0, hd⟩ : ∃ a r, l.drop i = a :: r := ⟨_, _, List.drop_eq_getElem_cons hc⟩
    have ha : l[i]? = some a := by have := congrArg (fun z : List UInt8 => z[0]?) hd; simpa [List.getElem?_drop] using this
    have hr0 : l.drop (i + 1) = r0 := by have := congrArg (List.drop 1) hd; simpa [List.drop_drop] using this
    have hr2 : l.drop (i + 3) = r0.drop 2 := by rw [← hr0, List.drop_drop]
    have hf := full64_cons a r0
    rw [hd, hf] at he
    have g1 : (r0.getD 0 0).toNat = (if i + 1 < l.length then (r0.getD 0 0).toNat else 0) := by
      split
      · rfl
      · rw [← hr0, List.drop_of_length_le (by omega)]; rfl
    obtain ⟨bb, hb⟩ : ∃ b, r0.getD 0 0 = b := ⟨_, rfl⟩
    obtain ⟨cc, hcc⟩ : ∃ c, r0.getD 1 0 = c := ⟨_, rfl⟩
    rw [hb, hcc] at he
    have hab := a.toNat_lt
    have hbb := bb.toNat_lt
    have hcb := cc.toNat_lt
    have w1 : IntKind.i64.wrap ((i : Int) + 1) = ((i + 1 : Nat) : Int) := by rw [wrap64 (by omega)]; omega
    have w2 : IntKind.i64.wrap ((i : Int) + 2) = ((i + 2 : Nat) : Int) := by rw [wrap64 (by omega)]; omega
    have w3 : IntKind.i64.wrap ((i : Int) + 3) = ((i + 3 : Nat) : Int) := by rw [wrap64 (by omega)]; omega
    obtain ⟨i1, hi1⟩ : ∃ k, i + 1 = k := ⟨_, rfl⟩
    obtain ⟨i2, hi2⟩ : ∃ k, i + 2 = k := ⟨_, rfl⟩
    obtain ⟨i3, hi3⟩ : ∃ k, i + 3 = k := ⟨_, rfl⟩
    rw [hi1] at w1; rw [hi2] at w2; rw [hi3] at w3
    obtain ⟨A, hA⟩ : ∃ A, a.toNat * 65536 = A := ⟨_, rfl⟩
    obtain ⟨B, hB⟩ : ∃ B, bb.toNat * 256 = B := ⟨_, rfl⟩
    have v1 : IntKind.i64.wrap ((a.toNat : Int) * 65536) = (A : Int) := by rw [wrap64 (by omega)]; omega
    have v2 : IntKind.i64.wrap ((bb.toNat : Int) * 256) = (B : Int) := by rw [wrap64 (by omega)]; omega
    rw [hA, hB] at he
    obtain ⟨x, hx⟩ : ∃ x, A + B + cc.toNat = x := ⟨_, rfl⟩
    rw [hx] at he
    have d1 : ((x : Int).tdiv 262144) = ((x / 262144 : Nat) : Int) := by rw [Int.tdiv_eq_ediv_of_nonneg (by omega)]; simp
    have d2 : ((x : Int).tdiv 4096) = ((x / 4096 : Nat) : Int) := by rw [Int.tdiv_eq_ediv_of_nonneg (by omega)]; simp
    have d3 : ((x : Int).tdiv 64) = ((x / 64 : Nat) : Int) := by rw [Int.tdiv_eq_ediv_of_nonneg (by omega)]; simp
    have m2 : (((x / 4096 : Nat) : Int).tmod 64) = ((x / 4096 % 64 : Nat) : Int) := by rw [Int.tmod_eq_emod_of_nonneg (by omega)]; simp
    have m3 : (((x / 64 : Nat) : Int).tmod 64) = ((x / 64 % 64 : Nat) : Int) := by rw [Int.tmod_eq_emod_of_nonneg (by omega)]; simp
    have m4 : ((x : Int).tmod 64) = ((x % 64 : Nat) : Int) := by rw [Int.tmod_eq_emod_of_nonneg (by omega)]; simp
    have u1 := L64_get (x / 262144) (by omega)
    have u2 := L64_get (x / 4096 % 64) (by omega)
    have u3 := L64_get (x / 64 % 64) (by omega)
    have u4 := L64_get (x % 64) (by omega)
    have e1 : IntKind.i64.wrap ((x / 262144 : Nat) : Int) = ((x / 262144 : Nat) : Int) := wrap64 (by omega)
    have e2 : IntKind.i64.wrap ((x / 4096 : Nat) : Int) = ((x / 4096 : Nat) : Int) := wrap64 (by omega)
    have e3 : IntKind.i64.wrap ((x / 64 : Nat) : Int) = ((x / 64 : Nat) : Int) := wrap64 (by omega)
    rw [grp3] at he
    obtain ⟨k1, hk1⟩ : ∃ k, x / 262144 = k := ⟨_, rfl⟩
    obtain ⟨k2, hk2⟩ : ∃ k, x / 4096 % 64 = k := ⟨_, rfl⟩
    obtain ⟨k3, hk3⟩ : ∃ k, x / 64 % 64 = k := ⟨_, rfl⟩
    obtain ⟨k4, hk4⟩ : ∃ k, x % 64 = k := ⟨_, rfl⟩
    rw [hk1] at d1 u1 e1 he
    rw [hk2] at m2 u2 he
    rw [hk3] at m3 u3 he
    rw [hk4] at m4 u4 he
    obtain ⟨y2, hy2⟩ : ∃ k, x / 4096 = k := ⟨_, rfl⟩
    obtain ⟨y3, hy3⟩ : ∃ k, x / 64 = k := ⟨_, rfl⟩
    rw [hy2] at d2 m2 e2
    rw [hy3] at d3 m3 e3
    have hmost : w.length + 4 ≤ most := by unfold most; omega
    have hm4 : 4 ≤ most := by unfold most; omega
    rw [hi3] at hr2
    have hend : w ++ [lt k1, lt k2, lt k3, lt k4] ++ full64 (l.drop i3) = full64 l := by rw [hr2, List.append_assoc]; exact he
    have zg : ∀ (k : Nat) (y : UInt8), r0[k]? = some y → l[i + 1 + k]? = some y := fun k y h => by rw [← hr0, List.getElem?_drop] at h; exact h
    by_cases c1 : i1 < l.length
    · have q1 : l[i1]? = some bb := by
        rw [← hi1]
        refine zg 0 bb ?_
        rw [← hr0, List.getElem?_drop, ← hb, ← hr0, List.getD_eq_getElem?_getD, List.getElem?_drop, List.getElem?_eq_getElem (by omega)]; rfl
      have v3 : IntKind.i64.wrap ((A : Int) + (B : Int)) = ((A + B : Nat) : Int) := by rw [wrap64 (by omega)]; omega
      by_cases c2 : i2 < l.length
      · have q2 : l[i2]? = some cc := by
          rw [show i2 = i + 1 + 1 by omega]
          refine zg 1 cc ?_
          rw [← hr0, List.getElem?_drop, ← hcc, ← hr0, List.getD_eq_getElem?_getD, List.getElem?_drop, List.getElem?_eq_getElem (by omega)]; rfl
        obtain ⟨Y, hY⟩ : ∃ Y, A + B = Y := ⟨_, rfl⟩
        rw [hY] at v3
        have v4 : IntKind.i64.wrap ((Y : Int) + (cc.toNat : Int)) = (x : Int) := by rw [wrap64 (by omega)]; omega
        cases w with
        | nil =>
          have hO' := hO.first [lt k1, lt k2, lt k3, lt k4]
          simp only [wAV]
          simp (maxSteps := 4000000) [List.getElem?_cons_zero, List.getElem?_cons_succ, -getElem?_pos, hc, ha, wrap64_byte, v1, w1, c1, q1, v2, v3, w2, c2, q2, v4, d1, d2, d3, m2, m3, m4, u1, u2, u3, u4, e1, e2, e3, w3, need_of hm4, hm4]
          exact ⟨i3, [lt k1, lt k2, lt k3, lt k4], S.length, _, ⟨by omega, by simpa using hend, hO'⟩, by omega, by simp, by simp⟩
        | cons c w =>
          obtain ⟨h1, h2⟩ := hO.2.2 (by simp)
          have hO' := hO.next (by simp) (c :: w ++ [lt k1, lt k2, lt k3, lt k4])
          simp only [wAV]
          obtain ⟨W, hW⟩ : ∃ W, (c :: w).map AV.u8 = W := ⟨_, rfl⟩
          have hWl : W.length = (c :: w).length := by rw [← hW]; simp
          have hW2 : (c :: w ++ [lt k1, lt k2, lt k3, lt k4]).map AV.u8 = W ++ [lt k1, lt k2, lt k3, lt k4].map AV.u8 := by rw [List.map_append, hW]
          rw [hW2] at hO'
          rw [hW] at h2
          obtain ⟨n, hn⟩ : ∃ n, (c :: w).length = n := ⟨_, rfl⟩
          have hn0 : 0 < n := by rw [← hn]; simp
          rw [hn] at hWl hmost ⊢
          simp (maxSteps := 4000000) [List.getElem?_cons_zero, List.getElem?_cons_succ, -getElem?_pos, hc, ha, wrap64_byte, v1, w1, c1, q1, v2, v3, w2, c2, q2, v4, d1, d2, d3, m2, m3, m4, u1, u2, u3, u4, e1, e2, e3, w3, hn0, h2, hWl, hmost]
          simp at hn
          exact ⟨i3, c :: w ++ [lt k1, lt k2, lt k3, lt k4], S.length, _, ⟨by omega, hend, hO'⟩, by omega, by simp; omega, by simp⟩
      · have hc0 : cc = 0 := by rw [← hcc, ← hr0, List.getD_eq_getElem?_getD, List.getElem?_drop, List.getElem?_eq_none (by omega)]; rfl
        have hx0 : A + B = x := by rw [hc0] at hx; simp at hx; omega
        rw [hx0] at v3
        cases w with
        | nil =>
          have hO' := hO.first [lt k1, lt k2, lt k3, lt k4]
          simp only [wAV]
          simp (maxSteps := 4000000) [List.getElem?_cons_zero, List.getElem?_cons_succ, -getElem?_pos, hc, ha, wrap64_byte, v1, w1, c1, q1, v2, v3, w2, c2, d1, d2, d3, m2, m3, m4, u1, u2, u3, u4, e1, e2, e3, w3, need_of hm4, hm4]
          exact ⟨i3, [lt k1, lt k2, lt k3, lt k4], S.length, _, ⟨by omega, by simpa using hend, hO'⟩, by omega, by simp, by simp⟩
        | cons c w =>
          obtain ⟨h1, h2⟩ := hO.2.2 (by simp)
          have hO' := hO.next (by simp) (c :: w ++ [lt k1, lt k2, lt k3, lt k4])
          simp only [wAV]
          obtain ⟨W, hW⟩ : ∃ W, (c :: w).map AV.u8 = W := ⟨_, rfl⟩
          have hWl : W.length = (c :: w).length := by rw [← hW]; simp
          have hW2 : (c :: w ++ [lt k1, lt k2, lt k3, lt k4]).map AV.u8 = W ++ [lt k1, lt k2, lt k3, lt k4].map AV.u8 := by rw [List.map_append, hW]
          rw [hW2] at hO'
          rw [hW] at h2
          obtain ⟨n, hn⟩ : ∃ n, (c :: w).length = n := ⟨_, rfl⟩
          have hn0 : 0 < n := by rw [← hn]; simp
          rw [hn] at hWl hmost ⊢
          simp (maxSteps := 4000000) [List.getElem?_cons_zero, List.getElem?_cons_succ, -getElem?_pos, hc, ha, wrap64_byte, v1, w1, c1, q1, v2, v3, w2, c2, d1, d2, d3, m2, m3, m4, u1, u2, u3, u4, e1, e2, e3, w3, hn0, h2, hWl, hmost]
          simp at hn
          exact ⟨i3, c :: w ++ [lt k1, lt k2, lt k3, lt k4], S.length, _, ⟨by omega, hend, hO'⟩, by omega, by simp; omega, by simp⟩
    · have hb0 : bb = 0 := by rw [← hb, ← hr0, List.drop_of_length_le (by omega)]; rfl
      have hc0 : cc = 0 := by rw [← hcc, ← hr0, List.drop_of_length_le (by omega)]; rfl
      have hxA : x = A := by rw [hb0] at hB; rw [hc0] at hx; simp at hB hx; omega
      subst hxA
      have c2 : ¬ i2 < l.length := by omega
      cases w with
      | nil =>
        have hO' := hO.first [lt k1, lt k2, lt k3, lt k4]
        simp only [wAV]
        simp (maxSteps := 4000000) [List.getElem?_cons_zero, List.getElem?_cons_succ, -getElem?_pos, hc, ha, wrap64_byte, v1, w1, c1, w2, c2, d1, d2, d3, m2, m3, m4, u1, u2, u3, u4, e1, e2, e3, w3, need_of hm4, hm4]
        exact ⟨i3, [lt k1, lt k2, lt k3, lt k4], S.length, _, ⟨by omega, by simpa using hend, hO'⟩, by omega, by simp, by simp⟩
      | cons c w =>
        obtain ⟨h1, h2⟩ := hO.2.2 (by simp)
        have hO' := hO.next (by simp) (c :: w ++ [lt k1, lt k2, lt k3, lt k4])
        simp only [wAV]
        obtain ⟨W, hW⟩ : ∃ W, (c :: w).map AV.u8 = W := ⟨_, rfl⟩
        have hWl : W.length = (c :: w).length := by rw [← hW]; simp
        have hW2 : (c :: w ++ [lt k1, lt k2, lt k3, lt k4]).map AV.u8 = W ++ [lt k1, lt k2, lt k3, lt k4].map AV.u8 := by rw [List.map_append, hW]
        rw [hW2] at hO'
        rw [hW] at h2
        obtain ⟨n, hn⟩ : ∃ n, (c :: w).length = n := ⟨_, rfl⟩
        have hn0 : 0 < n := by rw [← hn]; simp
        rw [hn] at hWl hmost ⊢
        simp (maxSteps := 4000000) [List.getElem?_cons_zero, List.getElem?_cons_succ, -getElem?_pos, hc, ha, wrap64_byte, v1, w1, c1, w2, c2, d1, d2, d3, m2, m3, m4, u1, u2, u3, u4, e1, e2, e3, w3, hn0, h2, hWl, hmost]
        simp at hn
        exact ⟨i3, c :: w ++ [lt k1, lt k2, lt k3, lt k4], S.length, _, ⟨by omega, hend, hO'⟩, by omega, by simp; omega, by simp⟩
  · have hw : w = full64 l := by rw [List.drop_of_length_le (by omega)] at he; simpa [full64] using he
    obtain ⟨s0, s2, s1⟩ := full64_sign l
    have z1 : ((l.length : Int).tmod 3) = ((l.length % 3 : Nat) : Int) := by rw [Int.tmod_eq_emod_of_nonneg (by omega)]; simp
    obtain ⟨r, hr⟩ : ∃ r, l.length % 3 = r := ⟨_, rfl⟩
    rw [hr] at z1 s0 s1 s2
    have hlow := hO.low
    cases hw' : w with
    | nil =>
      have h0 : full64 l = [] := by rw [← hw, hw']
      have hr0 : r = 0 := by
        rcases (by omega : r = 0 ∨ r = 1 ∨ r = 2) with h | h | h
        · exact h
        · have := (s1 h).1; rw [h0] at this; simp at this
        · have := (s2 h).1; rw [h0] at this; simp at this
      subst hr0
      have hb : b64 l = [] := by rw [← s0 rfl, h0]
      simp only [wAV]
      simp (maxSteps := 4000000) [List.getElem?_cons_zero, List.getElem?_cons_succ, hc, z1, hb, need_of hlow, hO.1, show bytesOf [] = some [] from rfl, Tryz.results102]
    | cons c w' =>
      have hne : w ≠ [] := by rw [hw']; simp
      rw [← hw']
      obtain ⟨h1, h2⟩ := hO.2.2 hne
      rw [wAV_cons _ _ hne]
      have hbS : b < S.length := (List.getElem?_eq_some_iff.1 h2).1
      rw [← hw] at s0 s1 s2
      have setw : ∀ (v : List UInt8) (m : Nat), m < v.length → (v.map AV.u8).take m ++ AV.int .u8 61 :: (v.map AV.u8).drop (m + 1) = (v.set m 61).map .u8 := by
        intro v m hm
        rw [List.set_eq_take_append_cons_drop, if_pos hm, List.map_append, List.map_cons, List.map_take, List.map_drop]; rfl
      obtain ⟨n, hn⟩ : ∃ n, w.length = n := ⟨_, rfl⟩
      have props : ∀ v : List UInt8, v.length = n → bytesOf (v.map .u8) = some v ∧ (v.map AV.u8).map dem = v.map .u8 ∧ (v.map AV.u8).length = n ∧ (v.map AV.u8).take n = v.map .u8 := fun v hv => ⟨bytesOf_map v, map_dem_u8, by simp [hv], by rw [List.take_of_length_le (by simp [hv])]⟩
      have hgS : ∀ (S : List (List AV)) (c : List AV), b < S.length → (S.set b c)[b]? = some c := fun S c h => by rw [List.getElem?_set, if_pos rfl, if_pos h]
      have hbS' : ∀ c, b < (S.set b c).length := fun c => by rw [List.length_set]; exact hbS
      obtain ⟨a1, a2, a3, a4⟩ := props w hn
      have hwn : w.length = n := hn
      rw [hn] at s1 s2 ⊢
      rcases (by omega : r = 0 ∨ r = 2 ∨ r = 1) with h | h | h
      · subst h
        have e0 := s0 rfl
        obtain ⟨W, hW⟩ : ∃ W, w.map AV.u8 = W := ⟨_, rfl⟩
        rw [hW] at h2 a1 a2 a3 a4
        simp (maxSteps := 4000000) [List.getElem?_cons_zero, List.getElem?_cons_succ, -getElem?_pos, hc, z1, h2, a1, a2, a3, a4, need_of hlow, hO.1, e0, Tryz.results102]
      · subst h
        obtain ⟨g1, g2⟩ := s2 rfl
        obtain ⟨m, hm⟩ : ∃ m, n - 1 = m := ⟨_, rfl⟩
        rw [hm] at g2
        have x1 := setw w m (by omega)
        have hl2 : (w.set m 61).length = n := by simp [hwn]
        obtain ⟨b1, b2, b3, b4⟩ := props _ hl2
        have hO2 := hO.write hne (w.set m 61)
        have hlow2 := hO2.low
        have htk2 := hO2.1
        have hg2 := hgS S ((w.set m 61).map .u8) hbS
        have w1 : IntKind.i64.wrap ((n : Int) - 1) = (m : Int) := by rw [wrap64 (by omega)]; omega
        have w2 : m < n := by omega
        have w3 : m + 1 ≤ n := by omega
        rw [g2] at b1 b2 b3 b4 x1 hlow2 htk2 hg2
        obtain ⟨W, hW⟩ : ∃ W, w.map AV.u8 = W := ⟨_, rfl⟩
        obtain ⟨V, hV⟩ : ∃ V, (b64 l).map AV.u8 = V := ⟨_, rfl⟩
        rw [hW] at h2 a1 a2 a3 a4 x1
        rw [hV] at b1 b2 b3 b4 x1 hlow2 htk2 hg2
        simp (maxSteps := 4000000) [List.getElem?_cons_zero, List.getElem?_cons_succ, -getElem?_pos, hc, z1, h2, a3, w1, w2, w3, x1, hg2, b1, b2, b3, b4, need_of hlow2, htk2, Tryz.results102]
      · subst h
        obtain ⟨g1, g2⟩ := s1 rfl
        obtain ⟨m, hm⟩ : ∃ m, n - 1 = m := ⟨_, rfl⟩
        obtain ⟨k, hk⟩ : ∃ k, n - 2 = k := ⟨_, rfl⟩
        rw [hm, hk] at g2
        have x1 := setw w k (by omega)
        have hl1 : (w.set k 61).length = n := by simp [hwn]
        have x2 := setw (w.set k 61) m (by omega)
        have hl2 : ((w.set k 61).set m 61).length = n := by simp [hwn]
        obtain ⟨c1, c2, c3, c4⟩ := props _ hl1
        obtain ⟨b1, b2, b3, b4⟩ := props _ hl2
        have hO1 := hO.write hne (w.set k 61)
        have hne1 : w.set k 61 ≠ [] := fun e => by rw [e] at hl1; simp at hl1; omega
        have hO2 := hO1.write hne1 ((w.set k 61).set m 61)
        have hlow2 := hO2.low
        have htk2 := hO2.1
        have hg1 := hgS S ((w.set k 61).map .u8) hbS
        have hg2 := hgS (S.set b ((w.set k 61).map .u8)) (((w.set k 61).set m 61).map .u8) (hbS' _)
        rw [g2] at b1 b2 b3 b4 x2 hlow2 htk2 hg2
        have w1 : IntKind.i64.wrap ((n : Int) - 1) = (m : Int) := by rw [wrap64 (by omega)]; omega
        have w4 : IntKind.i64.wrap ((n : Int) - 2) = (k : Int) := by rw [wrap64 (by omega)]; omega
        have w2 : m < n := by omega
        have w3 : m + 1 ≤ n := by omega
        have w5 : k < n := by omega
        have w6 : k + 1 ≤ n := by omega
        obtain ⟨W, hW⟩ : ∃ W, w.map AV.u8 = W := ⟨_, rfl⟩
        obtain ⟨U, hU⟩ : ∃ U, (w.set k 61).map AV.u8 = U := ⟨_, rfl⟩
        obtain ⟨V, hV⟩ : ∃ V, (b64 l).map AV.u8 = V := ⟨_, rfl⟩
        rw [hW] at h2 a1 a2 a3 a4 x1
        rw [hU] at x1 x2 hlow2 htk2 hg1 hg2 c3
        rw [hV] at b1 b2 b3 b4 x2 hlow2 htk2 hg2
        obtain ⟨S1, hS1⟩ : ∃ S1, S.set b U = S1 := ⟨_, rfl⟩
        rw [hS1] at hlow2 htk2 hg1 hg2
        obtain ⟨S2, hS2⟩ : ∃ S2, S1.set b V = S2 := ⟨_, rfl⟩
        rw [hS2] at hlow2 htk2 hg2
        simp (maxSteps := 4000000) [List.getElem?_cons_zero, List.getElem?_cons_succ, -getElem?_pos, -List.set_set, hc, z1, h2, a3, w1, w2, w3, w4, w5, w6, x1, hS1, hg1, c3, x2, hS2, hg2, b1, b2, b3, b4, need_of hlow2, htk2, Tryz.results102]
end Go.Proofs.Tryz.Ai
end
section
/- Base64: the program's side reads it. -/
namespace Go.Proofs.Tryz.Ai
open Go Go.AI Go.Proofs Go.B64
set_option maxHeartbeats 4000000
set_option maxRecDepth 4000
set_option linter.unusedVariables false

theorem place_cases (c : UInt8) : plc c = -1 ∨ ∃ v : Nat, v < 64 ∧ plc c = (v : Int) ∧ lt v = c := by
  unfold plc
  by_cases h : L64.contains c = true
  · right
    rw [if_pos h]
    have hm : c ∈ L64 := by simpa using h
    have hl := List.idxOf_lt_length_of_mem hm
    refine ⟨L64.idxOf c, hl, rfl, ?_⟩
    unfold lt
    rw [List.getD_eq_getElem?_getD, List.getElem?_eq_getElem hl]
    simp
  · left; rw [if_neg h]
theorem wrapu8_nat (n : Nat) : IntKind.u8.wrap (n : Int) = ((UInt8.ofNat (n % 256)).toNat : Int) := by
  simp only [IntKind.wrap, IntKind.signed, IntKind.bits]; simp
noncomputable def fromR (s : List UInt8) : List UInt8 × Int := match from64 s with
  | some b => (b, 0)
  | none => ([], 15)
theorem fromR_some {s b : List UInt8} (h : from64 s = some b) : fromR s = (b, 0) := by unfold fromR; rw [h]
theorem fromR_none {s : List UInt8} (h : from64 s = none) : fromR s = ([], 15) := by unfold fromR; rw [h]
theorem fromR_len (s : List UInt8) : (fromR s).1.length ≤ s.length := by
  unfold fromR
  cases h : from64 s with
  | none => simp
  | some b => exact from64_len h
end Go.Proofs.Tryz.Ai
end
section
/- Base64: the document's side reads it. -/
namespace Go.Proofs.Tryz.Ai
open Go Go.AI Go.Proofs Go.B64
set_option maxHeartbeats 4000000
set_option maxRecDepth 4000
set_option linter.unusedVariables false

theorem place_eq (c : UInt8) (σ) : ev 101 [.int .u8 c.toNat] σ = some (.int .i64 (plc c), σ) := by
  refine EV_post rfl Tryz.func101 rfl (by simp [Tryz.ntmps101]) (by kernel_rfl) (by kernel_rfl) ?_
  simp (maxSteps := 4000000) [List.getElem?_cons_zero, List.getElem?_cons_succ, ]
  refine Post_loop (I := fun i : Nat => ⟨[(0, .int .u8 c.toNat), (3, .int .i64 i)], [], σ⟩) (Pr := fun i => i ≤ 64 ∧ ∀ j, j < i → lt j ≠ c) (μ := fun i => 64 - i) (a := 0) (by simp) (by simp) ?_
  rintro i ⟨hi, hn⟩
  have w1 : IntKind.i64.wrap ((i : Int) + 1) = (i : Int) + 1 := wrap64 (by omega)
  by_cases hc : i < 64
  · have hx := L64_get i hc
    by_cases he : lt i = c
    · have hp : plc c = (i : Int) := by rw [← he]; exact lt_plc i hc
      simp (maxSteps := 4000000) [List.getElem?_cons_zero, List.getElem?_cons_succ, -getElem?_pos, hc, hx, he, hp, Tryz.results101]
    · simp (maxSteps := 4000000) [List.getElem?_cons_zero, List.getElem?_cons_succ, -getElem?_pos, hc, hx, he, w1]
      refine ⟨i + 1, ⟨by omega, fun j hj => ?_⟩, by omega, by simp⟩
      rcases (by omega : j < i ∨ j = i) with h | rfl
      · exact hn j h
      · exact he
  · have hp : plc c = -1 := by
      rcases place_cases c with h | ⟨v, h1, h2, h3⟩
      · exact h
      · exact absurd h3 (hn v (by omega))
    simp (maxSteps := 4000000) [List.getElem?_cons_zero, List.getElem?_cons_succ, hc, hp, Tryz.results101]
/-- a number of the first letters of a group -/
def numk (s : List UInt8) (i : Nat) : Nat → Nat
  | 0 => 0
  | k + 1 => numk s i k * 64 + pl0 (s.getD (i + k) 0)
theorem numk_lt (s : List UInt8) (i k : Nat) : numk s i k < 64 ^ k := by
  induction k with
  | zero => simp [numk]
  | succ k ih =>
    have : pl0 (s.getD (i + k) 0) < 64 := by
      have := pl0_le ⟨(s.getD (i + k) 0).toNat, (s.getD (i + k) 0).toNat_lt⟩
      simpa using this
    rw [numk, Nat.pow_succ]; omega
theorem wrapu8_div (n m : Nat) : IntKind.u8.wrap ((n / m : Nat) : Int) = ((UInt8.ofNat (n / m % 256)).toNat : Int) := wrapu8_nat _
theorem rFromBase64_eq (s : List UInt8) (hs : s.length ≤ 2 ^ 29) (σ) : ev 65 [.str s] σ = some (.tup [.sl .sh ((fromR s).1.map .u8), .int .i64 (fromR s).2], σ) := by
  refine EV_post rfl Tryz.func65 rfl (by simp [Tryz.ntmps65]) (by kernel_rfl) (by kernel_rfl) ?_
  obtain ⟨n, hn⟩ : ∃ n, s.length = n := ⟨_, rfl⟩
  have m4 : ((n : Int).tmod 4) = ((n % 4 : Nat) : Int) := by rw [Int.tmod_eq_emod_of_nonneg (by omega)]; simp
  by_cases h4 : n % 4 = 0
  · rw [h4] at m4
    simp (maxSteps := 4000000) [List.getElem?_cons_zero, List.getElem?_cons_succ, hn, m4]
    refine Post_loop (I := fun p : Nat × List UInt8 => ⟨[(0, .str s), (4, .sl (.ex 5 1) (p.2.map .u8)), (5, .int .i64 p.1)], [], σ⟩)
      (Pr := fun p => p.1 ≤ n ∧ p.1 % 4 = 0 ∧ p.2.length = p.1 / 4 * 3 ∧ p.2 ++ dec3 (s.drop p.1) = dec3 s) (μ := fun p => n - p.1) (a := (0, [])) (by simp) (by simp) ?_
    rintro ⟨i, o⟩ ⟨hi, hi4, hol, he⟩
    simp only at hi hi4 hol he ⊢
    by_cases hc : i < n
    · simp (maxSteps := 4000000) [List.getElem?_cons_zero, List.getElem?_cons_succ, hc, hn]
      refine Post_loop (I := fun p : Nat => ⟨[(0, .str s), (4, .sl (.ex 5 1) (o.map .u8)), (5, .int .i64 i), (6, .int .i64 (numk s i p)), (7, .int .i64 p)], [], σ⟩)
        (Pr := fun p => p ≤ 4) (μ := fun p => 4 - p) (a := 0) (by simp [numk]) (by simp) ?_
      intro k hk
      have hkb := numk_lt s i k
      by_cases hk4 : k < 4
      · obtain ⟨c, hx⟩ : ∃ c, s[i + k]? = some c := ⟨_, List.getElem?_eq_getElem (by omega)⟩
        have hP := place_eq c
        have w1 : IntKind.i64.wrap ((i : Int) + k) = ((i + k : Nat) : Int) := by rw [wrap64 (by omega)]; omega
        have w2 : IntKind.i64.wrap ((k : Int) + 1) = (k : Int) + 1 := wrap64 (by omega)
        have hn1 : numk s i (k + 1) = numk s i k * 64 + pl0 c := by rw [numk, List.getD_eq_getElem?_getD, hx]; rfl
        have hkb' : numk s i k < 64 ^ 4 := Nat.lt_of_lt_of_le hkb (Nat.pow_le_pow_right (by omega) (by omega))
        have hpl : pl0 c < 64 := by
          have := pl0_le ⟨c.toNat, c.toNat_lt⟩
          simpa using this
        obtain ⟨N, hN⟩ : ∃ N, numk s i k = N := ⟨_, rfl⟩
        rw [hN] at hn1 hkb'
        have w3 : IntKind.i64.wrap ((N : Int) * 64) = ((N * 64 : Nat) : Int) := by rw [wrap64 (by omega)]; omega
        have hmx : (if plc c < 0 then (0 : Int) else plc c) = (pl0 c : Int) := by unfold pl0; split <;> omega
        have w4 : IntKind.i64.wrap (((N * 64 : Nat) : Int) + (pl0 c : Int)) = ((N * 64 + pl0 c : Nat) : Int) := by rw [wrap64 (by omega)]; omega
        obtain ⟨M, hM⟩ : ∃ M, N * 64 = M := ⟨_, rfl⟩
        rw [hM] at w3 w4 hn1
        obtain ⟨R, hR⟩ : ∃ R, M + pl0 c = R := ⟨_, rfl⟩
        rw [hR] at w4 hn1
        obtain ⟨q, hq⟩ : ∃ q, i + k = q := ⟨_, rfl⟩
        rw [hq] at w1 hx
        simp (maxSteps := 4000000) [List.getElem?_cons_zero, List.getElem?_cons_succ, -getElem?_pos, hk4, hx, hP, w1, w2, hN, w3, hmx, w4]
        exact ⟨k + 1, by omega, by omega, by simp [hn1]⟩
      · have hk' : k = 4 := by omega
        subst hk'
        obtain ⟨N, hN⟩ : ∃ N, numk s i 4 = N := ⟨_, rfl⟩
        rw [hN] at hkb
        have hd : dec3 (s.drop i) = by3 N ++ dec3 (s.drop (i + 4)) := by
          rw [List.drop_eq_getElem_cons (i := i) (by omega), List.drop_eq_getElem_cons (i := i + 1) (by omega), List.drop_eq_getElem_cons (i := i + 1 + 1) (by omega), List.drop_eq_getElem_cons (i := i + 1 + 1 + 1) (by omega), dec3]
          congr 1
          rw [← hN]
          simp only [numk, num4, List.getD_eq_getElem?_getD]
          rw [List.getElem?_eq_getElem (by omega), List.getElem?_eq_getElem (by omega), List.getElem?_eq_getElem (by omega), List.getElem?_eq_getElem (by omega)]
          simp
        have hb64' : (64 : Nat) ^ 4 = 16777216 := by decide
        rw [hb64'] at hkb
        have f1 := fdivp N 16
        have f2 := fdivp N 8
        have e1 : N / 2 ^ 16 = N / 65536 := by simp
        have e2 : N / 2 ^ 8 = N / 256 := by simp
        rw [e1, show (2 : Int) ^ 16 = 65536 by decide] at f1
        rw [e2, show (2 : Int) ^ 8 = 256 by decide] at f2
        have u1 := wrapu8_div N 65536
        have u2 := wrapu8_div N 256
        have u3 := wrapu8_nat N
        have hbt : IntKind.i64.bits = 64 := rfl
        have w2 : IntKind.i64.wrap ((i : Int) + 4) = ((i + 4 : Nat) : Int) := by rw [wrap64 (by omega)]; omega
        have hmost : o.length + 3 ≤ most := by unfold most; omega
        have hb3 : by3 N = [UInt8.ofNat (N / 65536 % 256), UInt8.ofNat (N / 256 % 256), UInt8.ofNat (N % 256)] := rfl
        rw [hd, hb3, ← List.append_assoc] at he
        obtain ⟨c1, hc1⟩ : ∃ c, UInt8.ofNat (N / 65536 % 256) = c := ⟨_, rfl⟩
        obtain ⟨c2, hc2⟩ : ∃ c, UInt8.ofNat (N / 256 % 256) = c := ⟨_, rfl⟩
        obtain ⟨c3, hc3⟩ : ∃ c, UInt8.ofNat (N % 256) = c := ⟨_, rfl⟩
        rw [hc1] at u1 he
        rw [hc2] at u2 he
        rw [hc3] at u3 he
        obtain ⟨D1, hD1⟩ : ∃ D, N / 65536 = D := ⟨_, rfl⟩
        obtain ⟨D2, hD2⟩ : ∃ D, N / 256 = D := ⟨_, rfl⟩
        rw [hD1] at f1 u1
        rw [hD2] at f2 u2
        obtain ⟨i4, hi4'⟩ : ∃ j, i + 4 = j := ⟨_, rfl⟩
        rw [hi4'] at w2 he
        simp (maxSteps := 4000000) [List.getElem?_cons_zero, List.getElem?_cons_succ, hN, hbt, f1, f2, u1, u2, u3, w2, hmost]
        exact ⟨i4, o ++ [c1, c2, c3], ⟨by omega, by omega, by simp; omega, he⟩, by omega, by simp, by simp⟩
    · have hin : i = n := by omega
      rw [List.drop_of_length_le (by omega)] at he
      have ho : o = dec3 s := by simpa [dec3] using he
      rw [hin] at hol
      -- the signs at the end are taken away
      simp (maxSteps := 4000000) [List.getElem?_cons_zero, List.getElem?_cons_succ, hc, hn]
      refine Post_loop (I := fun p : Nat × Own × List UInt8 => ⟨[(0, .str s), (4, .sl p.2.1 (p.2.2.map .u8)), (8, .int .i64 p.1)], [], σ⟩)
        (Pr := fun p => p.1 ≤ 2 ∧ p.1 ≤ n ∧ (∀ j, j < p.1 → s[n - 1 - j]? = some 61) ∧ p.2.2 = o.take (o.length - p.1) ∧ (p.2.1 = .ex 5 1 ∨ p.2.1 = .sh)) (μ := fun p => 2 - p.1) (a := (0, .ex 5 1, o)) (by simp) (by simp) ?_
      rintro ⟨k, own, O⟩ ⟨hk, hkn, hsg, hO, hown⟩
      simp only at hk hkn hsg hO hown ⊢
      have hnorm : ∀ xs, norm Tryz.prog 99 (.sl own xs) = some (.sl own xs) := fun xs => by rcases hown with rfl | rfl <;> rfl
      have fin : (k < 2 → 0 < n → s[n - 1 - k]? ≠ some 61) → ∀ b, from64 s = some b → O = b := by
        rw [hO]
        intro hex b hb
        have h1 := from64_some hb
        have h2 := dec3_b64 b
        rw [h1, ← ho] at h2
        have hp := pad_le b
        have hkp : k = (pad64 b).length := by
          by_cases hn0 : n = 0
          · have : b64 b = [] := by rw [h1]; exact List.eq_nil_of_length_eq_zero (by omega)
            have : b.length = 0 := by have := congrArg List.length this; rw [b64_len] at this; simp at this; omega
            have : b = [] := List.eq_nil_of_length_eq_zero this
            subst this; simp [pad64]; omega
          · rcases Nat.lt_trichotomy k (pad64 b).length with h | h | h
            · have := (b64_end b k (by rw [h1]; omega)).1 h
              rw [h1, hn] at this
              exact absurd this (hex (by omega) (by omega))
            · exact h
            · have := (b64_end b (pad64 b).length (by rw [h1]; omega)).2 (Nat.le_refl _)
              rw [h1, hn] at this
              exact absurd (hsg _ h) this
        rw [h2, hkp]; simp
      have hOl : O.length = o.length - k := by rw [hO]; simp
      have hB := rBase64_eq O (by omega)
      by_cases hcond : k < 2 ∧ 0 < n ∧ s[n - 1 - k]? = some 61
      · obtain ⟨k2, n0, hx⟩ := hcond
        have w1 : IntKind.i64.wrap ((n : Int) - 1) = ((n - 1 : Nat) : Int) := by rw [wrap64 (by omega)]; omega
        have w2 : IntKind.i64.wrap (((n - 1 : Nat) : Int) - k) = ((n - 1 - k : Nat) : Int) := by rw [wrap64 (by omega)]; omega
        have w3 : IntKind.i64.wrap ((k : Int) + 1) = (k : Int) + 1 := wrap64 (by omega)
        obtain ⟨q, hq⟩ : ∃ q, n - 1 - k = q := ⟨_, rfl⟩
        rw [hq] at w2 hx
        obtain ⟨n1, hn1⟩ : ∃ q, n - 1 = q := ⟨_, rfl⟩
        rw [hn1] at w1 w2
        have hO2 : O.take (O.length - 1) = o.take (o.length - (k + 1)) := by
          rw [hOl, hO, List.take_take]; congr 1; omega
        have w4 : IntKind.i64.wrap ((O.length : Int) - 1) = ((O.length - 1 : Nat) : Int) := by rw [wrap64 (by omega)]; omega
        obtain ⟨m, hm⟩ : ∃ m, O.length - 1 = m := ⟨_, rfl⟩
        rw [hm] at w4 hO2
        have hml : m ≤ O.length := by omega
        simp (maxSteps := 4000000) [List.getElem?_cons_zero, List.getElem?_cons_succ, -getElem?_pos, k2, hn, n0, w1, w2, w3, hx, w4, hml]
        refine ⟨k + 1, .sh, O.take m, ⟨by omega, by omega, fun j hj => ?_, hO2, .inr rfl⟩, by omega, by simp, by simp⟩
        rcases (by omega : j < k ∨ j = k) with h | rfl
        · exact hsg j h
        · rw [hq]; exact hx
      · have hfin := fin fun k2 n0 hx => hcond ⟨k2, n0, hx⟩
        have hex : ∀ K : Prop, (k < 2 → 0 < n → ∃ c, s[n - 1 - k]? = some c ∧ ¬ c = 61) := fun _ k2 n0 => ⟨s[n - 1 - k]'(by omega), List.getElem?_eq_getElem (by omega), fun e => hcond ⟨k2, n0, by rw [List.getElem?_eq_getElem (by omega), e]⟩⟩
        have tail : ∀ (R : List UInt8 × Int), (b64 O = s → R = (O, 0)) → (¬ b64 O = s → R = ([], 15)) → fromR s = R := by
          intro R h1 h2
          by_cases hq : b64 O = s
          · rw [h1 hq]; exact fromR_some (by rw [← hq]; exact from64_b64 O)
          · rw [h2 hq]
            refine fromR_none ?_
            cases hf : from64 s with
            | none => rfl
            | some b => exact absurd (by rw [hfin b hf]; exact from64_some hf) hq
        have w1 : IntKind.i64.wrap ((n : Int) - 1) = ((n : Int) - 1) := wrap64 (by omega)
        by_cases k2 : k < 2
        · by_cases n0 : 0 < n
          · obtain ⟨c, hx, hc61⟩ := hex True k2 n0
            have w1 : IntKind.i64.wrap ((n : Int) - 1) = ((n - 1 : Nat) : Int) := by rw [wrap64 (by omega)]; omega
            have w2 : IntKind.i64.wrap (((n - 1 : Nat) : Int) - k) = ((n - 1 - k : Nat) : Int) := by rw [wrap64 (by omega)]; omega
            obtain ⟨q, hq⟩ : ∃ q, n - 1 - k = q := ⟨_, rfl⟩
            rw [hq] at w2 hx
            obtain ⟨n1, hn1⟩ : ∃ q, n - 1 = q := ⟨_, rfl⟩
            rw [hn1] at w1 w2
            by_cases hb : b64 O = s
            · have hR := tail (O, 0) (fun _ => rfl) (fun h => absurd hb h)
              simp (maxSteps := 4000000) [List.getElem?_cons_zero, List.getElem?_cons_succ, -getElem?_pos, k2, hn, n0, w1, w2, hx, hc61, hB, hb, hR, hnorm, Tryz.results65]
            · have hR := tail ([], 15) (fun h => absurd h hb) (fun _ => rfl)
              simp (maxSteps := 4000000) [List.getElem?_cons_zero, List.getElem?_cons_succ, -getElem?_pos, k2, hn, n0, w1, w2, hx, hc61, hB, hb, hR, hnorm, Tryz.results65]
          · have n00 : n = 0 := by omega
            by_cases hb : b64 O = s
            · have hR := tail (O, 0) (fun _ => rfl) (fun h => absurd hb h)
              simp (maxSteps := 4000000) [List.getElem?_cons_zero, List.getElem?_cons_succ, k2, hn, n0, hB, hb, hR, hnorm, Tryz.results65]
            · have hR := tail ([], 15) (fun h => absurd h hb) (fun _ => rfl)
              simp (maxSteps := 4000000) [List.getElem?_cons_zero, List.getElem?_cons_succ, k2, hn, n0, hB, hb, hR, hnorm, Tryz.results65]
        · by_cases hb : b64 O = s
          · have hR := tail (O, 0) (fun _ => rfl) (fun h => absurd hb h)
            simp (maxSteps := 4000000) [List.getElem?_cons_zero, List.getElem?_cons_succ, k2, hB, hb, hR, hnorm, Tryz.results65]
          · have hR := tail ([], 15) (fun h => absurd h hb) (fun _ => rfl)
            simp (maxSteps := 4000000) [List.getElem?_cons_zero, List.getElem?_cons_succ, k2, hB, hb, hR, hnorm, Tryz.results65]
  · have hR : fromR s = ([], 15) := by
      refine fromR_none ?_
      cases hf : from64 s with
      | none => rfl
      | some b => have := b64_len4 b; rw [from64_some hf, hn] at this; exact absurd this h4
    have h4' : ¬ (n : Int) % 4 = 0 := by omega
    have h4'' : ¬ (n : Int).tmod 4 = 0 := by rw [m4]; omega
    simp (maxSteps := 4000000) [List.getElem?_cons_zero, List.getElem?_cons_succ, hn, h4'', hR, Tryz.results65]
end Go.Proofs.Tryz.Ai
end
section
/- The document's lines: order, one line, Parse. -/
namespace Go.Proofs.Tryz.Ai
open Go Go.AI Go.Proofs Go.B64
set_option maxHeartbeats 8000000
set_option maxRecDepth 4000
set_option linter.unusedVariables false

theorem rless_eq (a b : Ln) (ha : lnM a) (hb : lnM b) (σ) : ev 86 [lnF a, lnF b] σ = some (.bool (decide (lnC a b < 0)), σ) := by
  have h1 := rLess_eq a.1 b.1 ha hb
  have h2 := rLess_eq b.1 a.1 hb ha
  have hfl := TO.modC.flip a.1 b.1
  have hsg := TO.modC.sgn a.1 b.1
  have hC : lnC a b = orI (modC a.1 b.1) (intC a.2.1 b.2.1) := rfl
  rw [hC]
  obtain ⟨⟨a1, a2⟩, a3, a4⟩ := a
  obtain ⟨⟨b1, b2⟩, b3, b4⟩ := b
  simp only [lnFx] at h1 h2 hfl hsg ⊢
  obtain ⟨M, hM⟩ : ∃ M, modC (a1, a2) (b1, b2) = M := ⟨_, rfl⟩
  rw [hM] at h1 hfl hsg ⊢
  rw [hfl] at h2
  refine EV_post rfl Tryz.func86 rfl (by simp [Tryz.ntmps86]) (by kernel_rfl) (by kernel_rfl) ?_
  rcases hsg with rfl | rfl | rfl
  · have hA : orI (-1) (intC a3 b3) = -1 := rfl
    have e1 : decide ((-1 : Int) < 0) = true := by decide
    rw [e1] at h1
    simp (maxSteps := 4000000) [List.getElem?_cons_zero, List.getElem?_cons_succ, h1, hA, Tryz.results86]
  · have hA : orI 0 (intC a3 b3) = intC a3 b3 := rfl
    have e1 : decide ((0 : Int) < 0) = false := by decide
    have e2 : decide (-(0 : Int) < 0) = false := by decide
    have e3 : decide (intC a3 b3 < 0) = decide (a3 < b3) := by
      rw [decide_eq_decide]; unfold intC; split <;> (try split) <;> omega
    rw [e1] at h1
    rw [e2] at h2
    simp (maxSteps := 4000000) [List.getElem?_cons_zero, List.getElem?_cons_succ, h1, h2, hA, e3, Tryz.results86]
  · have hA : orI 1 (intC a3 b3) = 1 := rfl
    have e1 : decide ((1 : Int) < 0) = false := by decide
    have e2 : decide (-(1 : Int) < 0) = true := by decide
    rw [e1] at h1
    rw [e2] at h2
    simp (maxSteps := 4000000) [List.getElem?_cons_zero, List.getElem?_cons_succ, h1, h2, hA, Tryz.results86]
theorem rordered_eq (l : List Ln) (hl : l.length ≤ 2 ^ 30) (hQ : ∀ x ∈ l, lnM x) (σ : List (List AV)) : ev 46 [.sl .sh (l.map lnF)] σ = some (.sl (.ex 82 4) ((isrt lnC l).map lnF), σ) := by
  have tp := TP.lnC
  refine EV_post rfl Tryz.func46 rfl (by simp [Tryz.ntmps46]) (by kernel_rfl) (by kernel_rfl) ?_
  simp (maxSteps := 4000000) [List.getElem?_cons_zero, List.getElem?_cons_succ, -Prod.forall]
  refine Post_loop (I := fun k : Nat => ⟨[(0, .sl .sh (l.map lnF)), (3, .sl (.ex 82 4) ((isrt lnC (l.take k)).map lnF)), (4, .int .i64 k)], [], σ⟩) (Pr := fun k => k ≤ l.length) (μ := fun k => l.length - k) (a := 0) (by simp [isrt]) (by simp) ?_
  intro k hk
  by_cases hc : k < l.length
  · obtain ⟨x, hx⟩ : ∃ z, l[k]? = some z := ⟨_, List.getElem?_eq_getElem hc⟩
    have hQx := hQ x (List.mem_of_getElem? hx)
    have hS : isrt lnC (l.take (k + 1)) = mrg lnC (isrt lnC (l.take k)) [x] := by
      rw [List.take_add_one, hx]; exact isrt_snoc tp _ _
    have hSs := isrt_srt' tp (l.take k)
    have hSl : (isrt lnC (l.take k)).length = k := by rw [isrt_len]; simp; omega
    have hSQ : ∀ y ∈ isrt lnC (l.take k), lnM y := fun y hy => hQ y (List.mem_of_mem_take (isrt_mem.1 hy))
    generalize isrt lnC (l.take k) = S at *
    simp (maxSteps := 4000000) [List.getElem?_cons_zero, List.getElem?_cons_succ, -Prod.forall, hc, hSl]
    refine Post_loop (I := fun u : Nat => ⟨[(0, .sl .sh (l.map lnF)), (3, .sl (.ex 82 4) (S.map lnF)), (4, .int .i64 k), (5, .int .i64 u)], [], σ⟩) (Pr := fun u => u ≤ k ∧ ∀ v ∈ S.drop u, lnC x v < 0) (μ := fun u => u) (a := k) (by simp) (by simp [← hSl]) ?_
    rintro u ⟨hu, hV⟩
    have hfin : (∀ y, (S.take u).getLast? = some y → ¬ lnC x y < 0) → isrt lnC (l.take (k + 1)) = S.take u ++ x :: S.drop u := by
      intro hq
      rw [hS]
      have : S = S.take u ++ S.drop u := (List.take_append_drop u S).symm
      conv => lhs; rw [this]
      refine mrg_one (fun y hy => ?_) hV
      obtain ⟨i, hi, hy⟩ := mem_take_get hy
      obtain ⟨z, hz⟩ : ∃ z, S[u - 1]? = some z := ⟨_, List.getElem?_eq_getElem (by omega)⟩
      have h1 := hq z (by
        obtain ⟨w, rfl⟩ : ∃ w, u = w + 1 := ⟨u - 1, by omega⟩
        rw [List.take_add_one, show S[w]? = some z from hz]; simp)
      exact tp.nlt.2 (tp.trans _ _ _ (srt_get tp hSs (by omega) hy hz) (tp.nlt.1 h1))
    have w1 : IntKind.i64.wrap ((k : Int) + 1) = (k : Int) + 1 := wrap64 (by omega)
    have ku : u ≤ S.length := by omega
    cases u with
    | zero =>
      have hf := hfin (by simp)
      simp (maxSteps := 4000000) [List.getElem?_cons_zero, List.getElem?_cons_succ, -Prod.forall, -regionA_true]
      refine Post_bndD [] _ (by rfl) (by simp (maxSteps := 4000000) [List.getElem?_cons_zero, List.getElem?_cons_succ, ]; exact rfl) ?_
      repeat (first
        | refine PostD_go _ (by rfl) (by rfl) (by simp (maxSteps := 4000000) [List.getElem?_cons_zero, List.getElem?_cons_succ, ]; exact rfl) (by first | exact .inl rfl | exact .inr rfl) (by rfl) ?_
        | refine PostD_no (by rfl) (by rfl) ?_)
      refine PostD_end ?_
      simp (maxSteps := 4000000) [List.getElem?_cons_zero, List.getElem?_cons_succ, -getElem?_pos, hx, w1, lnF]
      repeat (rw [need_of]; rotate_left; (· (try unfold most); omega); simp (maxSteps := 4000000) [List.getElem?_cons_zero, List.getElem?_cons_succ, -getElem?_pos, hx, w1, lnF])
      exact ⟨k + 1, by omega, by omega, by rw [hf]; simp [lnF], by simp⟩
    | succ w =>
      obtain ⟨y, hy⟩ : ∃ y, S[w]? = some y := ⟨_, List.getElem?_eq_getElem (by omega)⟩
      have hQy := hSQ y (List.mem_of_getElem? hy)
      have hcmp := rless_eq x y hQx hQy
      simp only [lnFx] at hcmp
      have hfl := tp.flip y x
      have w2 : IntKind.i64.wrap ((w : Int) + 1 - 1) = (w : Int) := by rw [wrap64 (by omega)]; omega
      have p4 : w < S.length := by omega
      have p5 : (0 : Int) < (w : Int) + 1 := by omega
      obtain ⟨v, hv⟩ : ∃ v, w + 1 = v := ⟨_, rfl⟩
      have hv2 : (w : Int) + 1 = (v : Int) := by omega
      have w3 : IntKind.i64.wrap ((v : Int) - 1) = (w : Int) := by rw [wrap64 (by omega)]; omega
      have p6 : 0 < v := by omega
      have kv : v ≤ S.length := by omega
      simp (maxSteps := 4000000) [List.getElem?_cons_zero, List.getElem?_cons_succ, -Prod.forall, -regionA_true, hv2]
      refine Post_bndD [] _ (by rfl) (by simp (maxSteps := 4000000) [List.getElem?_cons_zero, List.getElem?_cons_succ, ]; exact rfl) ?_
      repeat (first
        | refine PostD_go _ (by rfl) (by rfl) (by simp (maxSteps := 4000000) [List.getElem?_cons_zero, List.getElem?_cons_succ, -getElem?_pos, hc, hx, hy, w3, p4, p6, hcmp, lnF]; exact rfl) (by first | exact .inl rfl | exact .inr rfl) (by rfl) ?_
        | refine PostD_no (by rfl) (by rfl) ?_)
      refine PostD_end ?_
      by_cases hlt : lnC x y < 0
      · have hV2 : ∀ v ∈ S.drop w, lnC x v < 0 := by
          have hd : S.drop w = y :: S.drop (w + 1) := by rw [List.drop_eq_getElem_cons (by omega)]; congr 1; exact (List.getElem?_eq_some_iff.1 hy).2
          rw [hd]
          intro v hv
          rcases List.mem_cons.1 hv with rfl | hv
          · exact hlt
          · exact hV v hv
        have hgt : lnC x y < 0 := hlt
        simp (maxSteps := 4000000) [List.getElem?_cons_zero, List.getElem?_cons_succ, -Prod.forall, hgt, w3]
        exact ⟨by omega, hV2⟩
      · have hf := hfin (fun z hz => by
          have : (S.take (w + 1)).getLast? = some y := by rw [List.take_add_one, hy]; simp
          rw [this] at hz; injection hz with hz; subst hz; exact hlt)
        have hgt : ¬ lnC x y < 0 := hlt
        rw [hv] at hf
        have hT : List.take v (S.map lnF) = (S.take v).map lnF := (List.map_take ..).symm
        have hD : List.drop v (S.map lnF) = (S.drop v).map lnF := (List.map_drop ..).symm
        have lT : (S.take v).length = v := by simp; omega
        have lD : (S.drop v).length = S.length - v := by simp
        clear hfin hV hlt hS
        generalize S.take v = A at *
        generalize S.drop v = B at *
        simp (maxSteps := 4000000) [List.getElem?_cons_zero, List.getElem?_cons_succ, -getElem?_pos, hgt, hx, w1, kv, hT, hD, lnF]
        repeat (rw [need_of]; rotate_left; (· (try unfold most); omega); simp (maxSteps := 4000000) [List.getElem?_cons_zero, List.getElem?_cons_succ, -getElem?_pos, hgt, hx, w1, kv, hT, hD, lnF])
        exact ⟨k + 1, by omega, by omega, by rw [hf]; simp [lnF], by simp⟩
  · have hk' : l.take k = l := List.take_of_length_le (by omega)
    rw [hk']
    simp (maxSteps := 4000000) [List.getElem?_cons_zero, List.getElem?_cons_succ, -Prod.forall, hc, Tryz.results46]
end Go.Proofs.Tryz.Ai
end
section
/- mewsref's small functions. -/
namespace Go.Proofs.Tryz.Ai
open Go Go.AI Go.Proofs
set_option maxHeartbeats 2000000
set_option linter.unusedVariables false

theorem suffix_drop {a b : List UInt8} (h : b.length ≤ a.length) : (a.drop (a.length - b.length) == b) = decide (b <:+ a) := by
  rw [Bool.eq_iff_iff, beq_iff_eq, decide_eq_true_iff, List.suffix_iff_eq_drop]
  exact ⟨fun h => h.symm, fun h => h.symm⟩
theorem Ends_eq (a b : List UInt8) (ha : a.length ≤ 2 ^ 31) (hb : b.length ≤ 2 ^ 31) (σ) : ev 57 [.str a, .str b] σ = some (.bool (decide (b <:+ a)), σ) := by
  refine EV_post rfl Tryz.func57 rfl (by simp [Tryz.ntmps57]) (by kernel_rfl) (by kernel_rfl) ?_
  by_cases hc : b.length ≤ a.length
  · obtain ⟨k, hk⟩ : ∃ k, a.length - b.length = k := ⟨_, rfl⟩
    have c1 : (b.length : Int) ≤ a.length := by omega
    have w1 : IntKind.i64.wrap ((a.length : Int) - b.length) = (k : Int) := by rw [wrap64 (by omega)]; omega
    have c2 : k ≤ a.length := by omega
    have e := suffix_drop hc
    rw [hk] at e
    simp (maxSteps := 4000000) [List.getElem?_cons_zero, List.getElem?_cons_succ, c1, hc, w1, c2, e, Tryz.results57]
  · have c1 : ¬ (b.length : Int) ≤ a.length := by omega
    have e : ¬ b <:+ a := fun h => hc h.length_le
    simp (maxSteps := 4000000) [List.getElem?_cons_zero, List.getElem?_cons_succ, c1, hc, e, Tryz.results57]
end Go.Proofs.Tryz.Ai
end
section
/- The document's lock: sums, one line, Parse. -/
namespace Go.Proofs.Tryz.Ai
open Go Go.AI Go.Proofs Go.B64
set_option maxHeartbeats 8000000
set_option maxRecDepth 4000
set_option linter.unusedVariables false

theorem sumB_fromR {s : List UInt8} (hl : s.length = 47) (h3 : s.take 3 = [104, 49, 58]) : sumB s = (decide ((fromR (s.drop 3)).2 = 0) && decide ((fromR (s.drop 3)).1.length = 32)) := by
  have hs : s = [104, 49, 58] ++ s.drop 3 := by rw [← h3, List.take_append_drop]
  rw [Bool.eq_iff_iff, sumB_iff, Bool.and_eq_true, decide_eq_true_iff, decide_eq_true_iff]
  constructor
  · rintro ⟨b, hb, e⟩
    have hd : s.drop 3 = b64 b := by rw [e]; simp
    rw [hd, fromR_some (from64_b64 b)]
    exact ⟨rfl, hb⟩
  · rintro ⟨h1, h2⟩
    cases hq : from64 (s.drop 3) with
    | none => rw [fromR_none hq] at h1; cases h1
    | some b =>
      rw [fromR_some hq] at h2
      exact ⟨b, h2, by rw [from64_some hq]; exact hs⟩
theorem rValidSum_eq (s : List UInt8) (hs : s.length ≤ 2 ^ 29) (σ) : ev 28 [.str s] σ = some (.bool (sumB s), σ) := by
  refine EV_post rfl Tryz.func28 rfl (by simp [Tryz.ntmps28]) (by kernel_rfl) (by kernel_rfl) ?_
  by_cases hl : s.length = 47
  · have q3 : 3 ≤ s.length := by omega
    by_cases h3 : s.take 3 = [104, 49, 58]
    · have h3' : (s.take 3 == [104, 49, 58]) = true := by simpa using h3
      have hB := rFromBase64_eq (s.drop 3) (by simp; omega)
      have hm := sumB_fromR hl h3
      have hfl := fromR_len (s.drop 3)
      obtain ⟨⟨b, e⟩, hr⟩ : ∃ r, fromR (s.drop 3) = r := ⟨_, rfl⟩
      rw [hr] at hB hm hfl
      simp only at hB hm hfl
      by_cases e0 : e = 0
      · rw [decide_eq_true e0, Bool.true_and] at hm
        have hbl : (((b.length : Nat) : Int) == 32) = decide (b.length = 32) := by
          rw [Bool.eq_iff_iff, beq_iff_eq, decide_eq_true_iff]; omega
        simp (maxSteps := 4000000) [List.getElem?_cons_zero, List.getElem?_cons_succ, hl, q3, h3', hB, e0, hm, hbl, Tryz.results28]
      · rw [decide_eq_false e0, Bool.false_and] at hm
        simp (maxSteps := 4000000) [List.getElem?_cons_zero, List.getElem?_cons_succ, hl, q3, h3', hB, e0, hm, Tryz.results28]
    · have h3' : (s.take 3 == [104, 49, 58]) = false := by simpa using h3
      have hm : sumB s = false := by
        rw [Bool.eq_false_iff]; intro h
        obtain ⟨b, _, rfl⟩ := (sumB_iff s).1 h
        exact h3 rfl
      simp (maxSteps := 4000000) [List.getElem?_cons_zero, List.getElem?_cons_succ, hl, q3, h3', hm, Tryz.results28]
  · have hm : sumB s = false := by rw [Bool.eq_false_iff]; intro h; exact hl (sumB_len h)
    have hl' : ¬ (s.length : Int) = 47 := by omega
    simp (maxSteps := 4000000) [List.getElem?_cons_zero, List.getElem?_cons_succ, hl, hl', hm, Tryz.results28]
theorem rone_eq (l : List Ln) (hl : l.length ≤ 2 ^ 29) (x : Ln) (hx : lnQ x) (σ) : ev 58 [.sl .sh (l.map lnF), lnF x] σ = some (.int .i64 (checkL l x), σ) := by
  have h5 := rCheck_eq x.1.1 x.1.2 (by have := hx.1; omega) (by have := hx.2.1; omega)
  have h6 := rValidSum_eq x.2.2 (by have := hx.2.2; omega)
  have hA : checkL l x = if checkB x.1.1 x.1.2 ≠ 0 then (checkB x.1.1 x.1.2 : Int) else if sumB x.2.2 = false then 16 else if l.any (isLn x.1 x.2.1) then 12 else 0 := rfl
  obtain ⟨⟨x1, x2⟩, x3, x4⟩ := x
  simp only at h5 h6 hA
  obtain ⟨E, hE⟩ : ∃ E : Nat, checkB x1 x2 = E := ⟨_, rfl⟩
  obtain ⟨b1, hb1⟩ : ∃ b, sumB x4 = b := ⟨_, rfl⟩
  rw [hE] at h5 hA
  rw [hb1] at h6 hA
  rw [lnFx]
  refine EV_post rfl Tryz.func58 rfl (by simp [Tryz.ntmps58]) (by kernel_rfl) (by kernel_rfl) ?_
  by_cases hE0 : E = 0
  · subst hE0
    rw [if_neg (by simp)] at hA
    cases b1 with
    | false =>
      rw [if_pos rfl] at hA
      simp (maxSteps := 4000000) [List.getElem?_cons_zero, List.getElem?_cons_succ, h5, h6, hA, Tryz.results58]
    | true =>
      rw [if_neg (by simp)] at hA
      simp (maxSteps := 4000000) [List.getElem?_cons_zero, List.getElem?_cons_succ, -Prod.forall, -Prod.exists, h5, h6]
      refine Post_loop (I := fun i : Nat => ⟨[(0, .sl .sh (l.map lnF)), (3, .lp 3 0), (6, .int .i64 i)], [(3, [.str x1, .str x2, .int .i64 x3, .str x4])], σ⟩) (Pr := fun i => i ≤ l.length ∧ (l.take i).any (isLn (x1, x2) x3) = false) (μ := fun i => l.length - i) (a := 0) (by simp) (by simp) ?_
      rintro i ⟨hi, hn⟩
      have w1 : IntKind.i64.wrap ((i : Int) + 1) = (i : Int) + 1 := wrap64 (by omega)
      by_cases hc : i < l.length
      · obtain ⟨y, hy⟩ : ∃ y, l[i]? = some y := ⟨_, List.getElem?_eq_getElem hc⟩
        have hin := any_take_succ hy hn
        have hany : isLn (x1, x2) x3 y = true → l.any (isLn (x1, x2) x3) = true := fun h => List.any_eq_true.2 ⟨y, List.mem_of_getElem? hy, h⟩
        obtain ⟨⟨y1, y2⟩, y3, y4⟩ := y
        have hI : isLn (x1, x2) x3 ((y1, y2), y3, y4) = ((y1 == x1 && y2 == x2) && decide (y3 = x3)) := rfl
        by_cases e1 : (y1 == x1 && y2 == x2) = true
        · by_cases e3 : y3 = x3
          · have hh := hany (by rw [hI, e1, decide_eq_true e3]; rfl)
            rw [hh, if_pos rfl] at hA
            simp (maxSteps := 4000000) [List.getElem?_cons_zero, List.getElem?_cons_succ, -getElem?_pos, -Prod.exists, -Bool.and_eq_true, -beq_iff_eq, -regionA_true, hc]
            refine Post_bndD [] _ (by rfl) (by simp (maxSteps := 4000000) [List.getElem?_cons_zero, List.getElem?_cons_succ, ]; exact rfl) ?_
            repeat (first
              | refine PostD_go _ (by rfl) (by rfl) (by simp (maxSteps := 4000000) [List.getElem?_cons_zero, List.getElem?_cons_succ, -getElem?_pos, -Bool.and_eq_true, -beq_iff_eq, hc, hy, lnFx, e1, eq_true e3]; exact rfl) (by first | exact .inl rfl | exact .inr rfl) (by rfl) ?_
              | refine PostD_no1 _ (by rfl) (by rfl) (by simp (maxSteps := 4000000) [List.getElem?_cons_zero, List.getElem?_cons_succ, ]; exact rfl) ?_)
            refine PostD_end ?_
            simp (maxSteps := 4000000) [List.getElem?_cons_zero, List.getElem?_cons_succ, hA, Tryz.results58]
          · rw [hI, e1, decide_eq_false e3] at hin
            simp (maxSteps := 4000000) [List.getElem?_cons_zero, List.getElem?_cons_succ, -getElem?_pos, -Prod.exists, -Prod.forall, -Bool.and_eq_true, -beq_iff_eq, -regionA_true, hc]
            refine Post_bndD [] _ (by rfl) (by simp (maxSteps := 4000000) [List.getElem?_cons_zero, List.getElem?_cons_succ, ]; exact rfl) ?_
            repeat (first
              | refine PostD_go _ (by rfl) (by rfl) (by simp (maxSteps := 4000000) [List.getElem?_cons_zero, List.getElem?_cons_succ, -getElem?_pos, -Bool.and_eq_true, -beq_iff_eq, hc, hy, lnFx, e1, e3]; exact rfl) (by first | exact .inl rfl | exact .inr rfl) (by rfl) ?_
              | refine PostD_no1 _ (by rfl) (by rfl) (by simp (maxSteps := 4000000) [List.getElem?_cons_zero, List.getElem?_cons_succ, ]; exact rfl) ?_)
            refine PostD_end ?_
            simp (maxSteps := 4000000) [List.getElem?_cons_zero, List.getElem?_cons_succ, -Prod.exists, -Prod.forall, w1]
            exact ⟨i + 1, ⟨by omega, by simpa [-Prod.forall] using hin⟩, by omega, by simp⟩
        · have e1' : (y1 == x1 && y2 == x2) = false := by simpa using e1
          rw [hI, e1', Bool.false_and] at hin
          simp (maxSteps := 4000000) [List.getElem?_cons_zero, List.getElem?_cons_succ, -getElem?_pos, -Prod.exists, -Prod.forall, -Bool.and_eq_true, -beq_iff_eq, -regionA_true, hc]
          refine Post_bndD [] _ (by rfl) (by simp (maxSteps := 4000000) [List.getElem?_cons_zero, List.getElem?_cons_succ, ]; exact rfl) ?_
          repeat (first
            | refine PostD_go _ (by rfl) (by rfl) (by simp (maxSteps := 4000000) [List.getElem?_cons_zero, List.getElem?_cons_succ, -getElem?_pos, -Bool.and_eq_true, -Bool.and_eq_false_imp, -beq_iff_eq, hc, hy, lnFx, e1']; exact rfl) (by first | exact .inl rfl | exact .inr rfl) (by rfl) ?_
            | refine PostD_no1 _ (by rfl) (by rfl) (by simp (maxSteps := 4000000) [List.getElem?_cons_zero, List.getElem?_cons_succ, ]; exact rfl) ?_)
          refine PostD_end ?_
          simp (maxSteps := 4000000) [List.getElem?_cons_zero, List.getElem?_cons_succ, -Prod.exists, -Prod.forall, w1]
          exact ⟨i + 1, ⟨by omega, by simpa [-Prod.forall] using hin⟩, by omega, by simp⟩
      · rw [List.take_of_length_le (by omega)] at hn
        rw [hn, if_neg (by simp)] at hA
        simp (maxSteps := 4000000) [List.getElem?_cons_zero, List.getElem?_cons_succ, hc, hA, Tryz.results58]
  · rw [if_pos hE0] at hA
    have hE0' : ¬ ((E : Nat) : Int) = 0 := by omega
    simp (maxSteps := 4000000) [List.getElem?_cons_zero, List.getElem?_cons_succ, h5, hE0, hE0', hA, Tryz.results58]
theorem rlines_eq (text : List UInt8) (hs : text.length ≤ 2 ^ 29) (M : List (List UInt8)) (e : Bool) (hM : splitB 10 text = M ++ if e then [[]] else []) (hlast : e = false → ∃ x, M.getLast? = some x ∧ x ≠ []) (σ) :
    ev 56 [.str text] σ = some (.tup [.sl .sh (M.map .str), .bool e], σ) := by
  have hC : ∀ σ, ev 37 [.str text, .int .u8 10] σ = some (.sl (.ex 9 1) ((splitB 10 text).map .str), σ) := Cut_eq text (by omega) 10
  have hm := splitB_many 10 text
  cases e with
  | true =>
    simp only [if_true] at hM
    rw [hM] at hC hm
    have hml : (M ++ [[]]).length = M.length + 1 := by simp
    have wl : IntKind.i64.wrap (M.length : Int) = (M.length : Int) := wrap64 (by simp at hm; omega)
    have hg : (M ++ [([] : List UInt8)])[M.length]? = some [] := by simp
    rw [List.map_append] at hC
    simp only [List.map_cons, List.map_nil] at hC
    obtain ⟨X, hX⟩ : ∃ X : List AV, M.map .str = X := ⟨_, rfl⟩
    have hXl : X.length = M.length := by rw [← hX]; simp
    have hall : allCells 1 X := by rw [← hX]; simp
    rw [hX] at hC ⊢
    rw [← hXl] at wl
    refine EV_post rfl Tryz.func56 rfl (by simp [Tryz.ntmps56]) (by kernel_rfl) (by kernel_rfl) ?_
    simp (maxSteps := 4000000) [List.getElem?_cons_zero, List.getElem?_cons_succ, hC, wl, hall, Tryz.results56]
  | false =>
    simp only [Bool.false_eq_true, if_false, List.append_nil] at hM
    rw [hM] at hC hm
    obtain ⟨x, hx, hx0⟩ := hlast rfl
    have hMl : 0 < M.length := by
      cases M with
      | nil => cases hx
      | cons a r => simp
    have hg : M[M.length - 1]? = some x := by rw [List.getLast?_eq_getElem?] at hx; exact hx
    obtain ⟨n, hn⟩ : ∃ n, M.length - 1 = n := ⟨_, rfl⟩
    rw [hn] at hg
    have wl : IntKind.i64.wrap ((M.length : Int) - 1) = (n : Int) := by rw [wrap64 (by omega)]; omega
    have hx0' : (x == []) = false := by simpa using hx0
    refine EV_post rfl Tryz.func56 rfl (by simp [Tryz.ntmps56]) (by kernel_rfl) (by kernel_rfl) ?_
    simp (maxSteps := 4000000) [List.getElem?_cons_zero, List.getElem?_cons_succ, -getElem?_pos, hC, wl, hg, hx0', Tryz.results56]
/-- the lines of a text, and whether it ends with a newline -/
theorem text_lines (text : List UInt8) : ∃ (M : List (List UInt8)) (e : Bool), (splitB 10 text = M ++ if e then [[]] else []) ∧ (e = false → ∃ x, M.getLast? = some x ∧ x ≠ []) := by
  obtain ⟨L, hL⟩ : ∃ L, splitB 10 text = L := ⟨_, rfl⟩
  have hne := splitB_ne 10 text
  rw [hL] at hne ⊢
  rcases List.eq_nil_or_concat L with h | ⟨M, x, h⟩
  · exact absurd h hne
  · rw [List.concat_eq_append] at h
    by_cases hx : x = []
    · subst hx
      exact ⟨M, true, by rw [h]; rfl, fun h => by cases h⟩
    · refine ⟨L, false, by simp, fun _ => ⟨x, by rw [h]; simp, hx⟩⟩
/-- where the reading stands -/
def rpInv (text : List UInt8) (M : List (List UInt8)) (e : Bool) (tl : List (List UInt8)) (R : List Ln ⊕ (Nat × Int)) (l : List Ln) (i : Nat) : Prop :=
  i ≤ M.length ∧ l.length ≤ i ∧ (∀ x ∈ l, x.1.1.length ≤ text.length ∧ x.1.2.length ≤ text.length ∧ x.2.2.length ≤ text.length) ∧ ((M.drop i ++ tl ≠ [] ∧ linesP lineR l i (M.drop i ++ tl) = R) ∨ (i = M.length ∧ e = false ∧ R = .inr (i, 11)))
theorem rParse_eq (text : List UInt8) (hs : text.length ≤ 2 ^ 27) (σ) : ev 24 [.str text] σ = some (.tup [.sl .sh ((parseP text).1.map lnF), .int .i64 (parseP text).2.1, .int .i64 (parseP text).2.2], σ) := by
  obtain ⟨M, e, hM, hlast⟩ := text_lines text
  have hL := rlines_eq text (by omega) M e hM hlast
  have hm := splitB_many 10 text
  have hmem : ∀ x ∈ M, x.length ≤ text.length := fun x hx => splitB_le (c := 10) (by rw [hM]; exact List.mem_append_left _ hx)
  have hMl : M.length ≤ text.length + 1 := by rw [hM] at hm; simp at hm; omega
  refine EV_post rfl Tryz.func24 rfl (by simp [Tryz.ntmps24]) (by kernel_rfl) (by kernel_rfl) ?_
  by_cases hc : 65536 < text.length
  · have hp : parseP text = ([], 0, 13) := by unfold parseP; rw [if_pos hc]
    simp (maxSteps := 4000000) [List.getElem?_cons_zero, List.getElem?_cons_succ, hc, hp, Tryz.results24]
  have hP : parseP text = match linesP lineR [] 0 (M ++ if e then [[]] else []) with
    | .inl l => (isrt lnC l, 0, 0)
    | .inr (n, e) => ([], n, e) := by unfold parseP; rw [if_neg hc, hM] <;> rfl
  obtain ⟨R, hR⟩ : ∃ R, linesP lineR [] 0 (M ++ if e then [[]] else []) = R := ⟨_, rfl⟩
  rw [hR] at hP
  obtain ⟨tl, htl⟩ : ∃ tl : List (List UInt8), (if e then [[]] else []) = tl := ⟨_, rfl⟩
  rw [htl] at hR
  simp (maxSteps := 4000000) [List.getElem?_cons_zero, List.getElem?_cons_succ, hc, hL]
  refine Post_loop (I := fun q : List Ln × Nat => ⟨[(5, .sl .sh (M.map .str)), (6, .bool e), (7, .sl (.ex 82 4) (q.1.map lnF)), (8, .int .i64 q.2)], [], σ⟩)
    (Pr := fun q => rpInv text M e tl R q.1 q.2) (μ := fun q => M.length - q.2) (a := ([], 0)) (by simp) (by
      refine ⟨by simp, by simp, by simp, .inl ⟨?_, by simpa using hR⟩⟩
      rw [← htl]
      cases e with
      | true => simp
      | false =>
        obtain ⟨x, hx, _⟩ := hlast rfl
        intro h
        simp at h
        subst h
        cases hx) ?_
  rintro ⟨l, i⟩ ⟨hi, hli, hlow, hrest⟩
  simp only at hi hli hlow hrest ⊢
  have w1 : IntKind.i64.wrap ((i : Int) + 1) = ((i + 1 : Nat) : Int) := by rw [wrap64 (by omega)]; omega
  by_cases hcM : i < M.length
  · obtain ⟨s, hx⟩ : ∃ s, M[i]? = some s := ⟨_, List.getElem?_eq_getElem hcM⟩
    have hsl := hmem s (List.mem_of_getElem? hx)
    have hdr : M.drop i = s :: M.drop (i + 1) := dropG_cons hx
    have hrest : linesP lineR l i (s :: (M.drop (i + 1) ++ tl)) = R := by
      rcases hrest with ⟨_, h⟩ | ⟨h, _⟩
      · rw [hdr] at h; exact h
      · omega
    have hsr : s ≠ [] ∨ M.drop (i + 1) ++ tl ≠ [] := by
      by_cases h : M.drop (i + 1) ++ tl = []
      · left
        simp at h
        cases e with
        | true => rw [← htl] at h; simp at h
        | false =>
          obtain ⟨x, hx', hx0⟩ := hlast rfl
          rw [List.getLast?_eq_getElem?, show M.length - 1 = i by omega, hx] at hx'
          injection hx' with hx'; rw [hx']; exact hx0
      · exact .inr h
    have hCs : ∀ σ, ev 37 [.str s, .int .u8 32] σ = some (.sl (.ex 9 1) ((splitB 32 s).map .str), σ) := Cut_eq s (by omega) 32
    have badR : (lineR l s).2 ≠ 0 → parseP text = ([], i + 1, (lineR l s).2) := fun h => by rw [hP, ← hrest, linesP_bad hsr h]
    have hln := lineR_not (l := l) (s := s)
    by_cases h3 : (splitB 32 s).length = 3
    · obtain ⟨p, v, h, hW⟩ : ∃ p v h, splitB 32 s = [p, v, h] := by
        match hq : splitB 32 s, h3 with
        | [p, v, h], _ => exact ⟨p, v, h, rfl⟩
      have hR2 : lineR l s = if p = [] ∨ v = [] ∨ h = [] then ([], 11) else (l ++ [mkLn p v h], checkL l (mkLn p v h)) := by unfold lineR; rw [hW]
      have hml := mkLn_len hW
      have hvl : v.length ≤ s.length := splitB_le (c := 32) (by rw [hW]; simp)
      rw [hW] at hCs
      simp only [List.map_cons, List.map_nil] at hCs
      by_cases p0 : p = []
      · have p0' : (p == []) = true := by simpa using p0
        rw [if_pos (.inl p0)] at hR2
        have hp := badR (by rw [hR2]; decide)
        rw [hR2] at hp
        simp (maxSteps := 4000000) [List.getElem?_cons_zero, List.getElem?_cons_succ, -getElem?_pos, hcM, hx, hCs, p0', w1, hp, Tryz.results24]
      have p0' : (p == []) = false := by simpa using p0
      by_cases v0 : v = []
      · have v0' : (v == []) = true := by simpa using v0
        rw [if_pos (.inr (.inl v0))] at hR2
        have hp := badR (by rw [hR2]; decide)
        rw [hR2] at hp
        simp (maxSteps := 4000000) [List.getElem?_cons_zero, List.getElem?_cons_succ, -getElem?_pos, hcM, hx, hCs, p0', v0', w1, hp, Tryz.results24]
      have v0' : (v == []) = false := by simpa using v0
      by_cases h0 : h = []
      · have h0' : (h == []) = true := by simpa using h0
        rw [if_pos (.inr (.inr h0))] at hR2
        have hp := badR (by rw [hR2]; decide)
        rw [hR2] at hp
        simp (maxSteps := 4000000) [List.getElem?_cons_zero, List.getElem?_cons_succ, -getElem?_pos, hcM, hx, hCs, p0', v0', h0', w1, hp, Tryz.results24]
      have h0' : (h == []) = false := by simpa using h0
      rw [if_neg (by simp [p0, v0, h0])] at hR2
      have hE := Ends_eq v [47, 103, 111, 46, 109, 111, 100] (by omega) (by simp)
      have hO := rone_eq l (by omega) (mkLn p v h) ⟨by omega, by omega, by omega⟩
      have hlm : l.length + 1 ≤ most := by unfold most; omega
      obtain ⟨C, hC⟩ : ∃ C, checkL l (mkLn p v h) = C := ⟨_, rfl⟩
      rw [hC] at hO hR2
      have hgood : C = 0 → ∀ (l' : List Ln), l' = l ++ [mkLn p v h] → rpInv text M e tl R l' (i + 1) := by
        rintro hC0 l' rfl
        refine ⟨by omega, by simp; omega, fun x hx => ?_, ?_⟩
        · rcases List.mem_append.1 hx with hx | hx
          · exact hlow x hx
          · simp only [List.mem_singleton] at hx; subst hx; omega
        · by_cases hq : M.drop (i + 1) ++ tl = []
          · right
            have hq' := hq
            simp at hq'
            have hef : e = false := by
              cases e with
              | true => rw [← htl] at hq'; simp at hq'
              | false => rfl
            refine ⟨by omega, hef, ?_⟩
            rw [← hrest, hq, linesP_end (hsr.resolve_right (by simp [hq])) (by rw [hR2]; exact hC0)]
          · left
            refine ⟨hq, ?_⟩
            rw [← hrest, linesP_next hq (by rw [hR2]; exact hC0), hR2]
      by_cases hg : goMod <:+ v
      · have hmk : mkLn p v h = ((p, v.take (v.length - 7)), 1, h) := by unfold mkLn; rw [if_pos hg]
        have hg7 : 7 ≤ v.length := by have := hg.length_le; simpa [goMod] using this
        have hg' : [47, 103, 111, 46, 109, 111, 100] <:+ v := hg
        rw [decide_eq_true hg'] at hE
        rw [hmk] at hO hgood
        have w7 : IntKind.i64.wrap ((v.length : Int) - 7) = ((v.length - 7 : Nat) : Int) := by rw [wrap64 (by omega)]; omega
        obtain ⟨v7, hv7⟩ : ∃ n, v.length - 7 = n := ⟨_, rfl⟩
        have hv7l : v7 ≤ v.length := by omega
        obtain ⟨V, hV⟩ : ∃ V, v.take (v.length - 7) = V := ⟨_, rfl⟩
        rw [hV] at hO hgood
        rw [hv7] at w7 hV
        rw [lnFx] at hO
        by_cases hC0 : C = 0
        · have hgd := hgood hC0 _ rfl
          simp (maxSteps := 4000000) [List.getElem?_cons_zero, List.getElem?_cons_succ, -getElem?_pos, -Prod.exists, -Prod.forall, -regionA_true, hcM, hx, hCs, p0', v0', h0']
          refine Post_bndD [10] _ (by rfl) (by simp (maxSteps := 4000000) [List.getElem?_cons_zero, List.getElem?_cons_succ, ]; exact rfl) ?_
          repeat (first
            | refine PostD_go _ (by rfl) (by rfl) (by simp (maxSteps := 4000000) [List.getElem?_cons_zero, List.getElem?_cons_succ, ]; exact rfl) (by first | exact .inl rfl | exact .inr rfl) (by rfl) ?_
            | refine PostD_no1 _ (by rfl) (by rfl) (by simp (maxSteps := 4000000) [List.getElem?_cons_zero, List.getElem?_cons_succ, ]; exact rfl) ?_)
          refine PostD_end ?_
          simp (maxSteps := 4000000) [List.getElem?_cons_zero, List.getElem?_cons_succ, -getElem?_pos, -Prod.exists, -Prod.forall, -regionA_true, hE]
          refine Post_bndD [] _ (by rfl) (by simp (maxSteps := 4000000) [List.getElem?_cons_zero, List.getElem?_cons_succ, ]; exact rfl) ?_
          repeat (first
            | refine PostD_go _ (by rfl) (by rfl) (by simp (maxSteps := 4000000) [List.getElem?_cons_zero, List.getElem?_cons_succ, w7, hv7l, hV]; exact rfl) (by first | exact .inl rfl | exact .inr rfl) (by rfl) ?_
            | refine PostD_no1 _ (by rfl) (by rfl) (by simp (maxSteps := 4000000) [List.getElem?_cons_zero, List.getElem?_cons_succ, ]; exact rfl) ?_)
          refine PostD_end ?_
          simp (maxSteps := 4000000) [List.getElem?_cons_zero, List.getElem?_cons_succ, -getElem?_pos, -Prod.exists, -Prod.forall, hO, hC0, hlm, w1]
          exact ⟨(l ++ [((p, V), (1 : Int), h)], i + 1), hgd, by simp; omega, by simp [lnF]⟩
        · have hp := badR (by rw [hR2]; exact hC0)
          rw [hR2] at hp
          simp (maxSteps := 4000000) [List.getElem?_cons_zero, List.getElem?_cons_succ, -getElem?_pos, -Prod.exists, -Prod.forall, -regionA_true, hcM, hx, hCs, p0', v0', h0']
          refine Post_bndD [10] _ (by rfl) (by simp (maxSteps := 4000000) [List.getElem?_cons_zero, List.getElem?_cons_succ, ]; exact rfl) ?_
          repeat (first
            | refine PostD_go _ (by rfl) (by rfl) (by simp (maxSteps := 4000000) [List.getElem?_cons_zero, List.getElem?_cons_succ, ]; exact rfl) (by first | exact .inl rfl | exact .inr rfl) (by rfl) ?_
            | refine PostD_no1 _ (by rfl) (by rfl) (by simp (maxSteps := 4000000) [List.getElem?_cons_zero, List.getElem?_cons_succ, ]; exact rfl) ?_)
          refine PostD_end ?_
          simp (maxSteps := 4000000) [List.getElem?_cons_zero, List.getElem?_cons_succ, -getElem?_pos, -Prod.exists, -Prod.forall, -regionA_true, hE]
          refine Post_bndD [] _ (by rfl) (by simp (maxSteps := 4000000) [List.getElem?_cons_zero, List.getElem?_cons_succ, ]; exact rfl) ?_
          repeat (first
            | refine PostD_go _ (by rfl) (by rfl) (by simp (maxSteps := 4000000) [List.getElem?_cons_zero, List.getElem?_cons_succ, w7, hv7l, hV]; exact rfl) (by first | exact .inl rfl | exact .inr rfl) (by rfl) ?_
            | refine PostD_no1 _ (by rfl) (by rfl) (by simp (maxSteps := 4000000) [List.getElem?_cons_zero, List.getElem?_cons_succ, ]; exact rfl) ?_)
          refine PostD_end ?_
          simp (maxSteps := 4000000) [List.getElem?_cons_zero, List.getElem?_cons_succ, hO, hC0, w1, hp, Tryz.results24]
      · have hmk : mkLn p v h = ((p, v), 0, h) := by unfold mkLn; rw [if_neg hg]
        have hg' : ¬ [47, 103, 111, 46, 109, 111, 100] <:+ v := hg
        rw [decide_eq_false hg'] at hE
        rw [hmk] at hO hgood
        rw [lnFx] at hO
        by_cases hC0 : C = 0
        · have hgd := hgood hC0 _ rfl
          simp (maxSteps := 4000000) [List.getElem?_cons_zero, List.getElem?_cons_succ, -getElem?_pos, -Prod.exists, -Prod.forall, -regionA_true, hcM, hx, hCs, p0', v0', h0']
          refine Post_bndD [10] _ (by rfl) (by simp (maxSteps := 4000000) [List.getElem?_cons_zero, List.getElem?_cons_succ, ]; exact rfl) ?_
          repeat (first
            | refine PostD_go _ (by rfl) (by rfl) (by simp (maxSteps := 4000000) [List.getElem?_cons_zero, List.getElem?_cons_succ, ]; exact rfl) (by first | exact .inl rfl | exact .inr rfl) (by rfl) ?_
            | refine PostD_no1 _ (by rfl) (by rfl) (by simp (maxSteps := 4000000) [List.getElem?_cons_zero, List.getElem?_cons_succ, ]; exact rfl) ?_)
          refine PostD_end ?_
          simp (maxSteps := 4000000) [List.getElem?_cons_zero, List.getElem?_cons_succ, -getElem?_pos, -Prod.exists, -Prod.forall, hE, hO, hC0, hlm, w1]
          exact ⟨(l ++ [((p, v), (0 : Int), h)], i + 1), hgd, by simp; omega, by simp [lnF]⟩
        · have hp := badR (by rw [hR2]; exact hC0)
          rw [hR2] at hp
          simp (maxSteps := 4000000) [List.getElem?_cons_zero, List.getElem?_cons_succ, -getElem?_pos, -Prod.exists, -Prod.forall, -regionA_true, hcM, hx, hCs, p0', v0', h0']
          refine Post_bndD [10] _ (by rfl) (by simp (maxSteps := 4000000) [List.getElem?_cons_zero, List.getElem?_cons_succ, ]; exact rfl) ?_
          repeat (first
            | refine PostD_go _ (by rfl) (by rfl) (by simp (maxSteps := 4000000) [List.getElem?_cons_zero, List.getElem?_cons_succ, ]; exact rfl) (by first | exact .inl rfl | exact .inr rfl) (by rfl) ?_
            | refine PostD_no1 _ (by rfl) (by rfl) (by simp (maxSteps := 4000000) [List.getElem?_cons_zero, List.getElem?_cons_succ, ]; exact rfl) ?_)
          refine PostD_end ?_
          simp (maxSteps := 4000000) [List.getElem?_cons_zero, List.getElem?_cons_succ, hE, hO, hC0, w1, hp, Tryz.results24]
    · have hp := badR (by rw [hln h3]; decide)
      rw [hln h3] at hp
      have hWl : ¬ (((splitB 32 s).length : Nat) : Int) = 3 := by omega
      obtain ⟨W, hW⟩ : ∃ W, splitB 32 s = W := ⟨_, rfl⟩
      rw [hW] at hCs hWl h3
      simp (maxSteps := 4000000) [List.getElem?_cons_zero, List.getElem?_cons_succ, -getElem?_pos, hcM, hx, hCs, hWl, h3, w1, hp, Tryz.results24]
  · obtain rfl : i = M.length := by omega
    rw [List.drop_length, List.nil_append] at hrest
    cases e with
    | true =>
      have hR' : R = .inl l := by
        rcases hrest with ⟨_, h⟩ | ⟨_, h, _⟩
        · rw [← h, ← htl]; rfl
        · cases h
      rw [hR'] at hP
      have hO := rordered_eq l (by omega) (fun x hx => ⟨by have := (hlow x hx).1; omega, by have := (hlow x hx).2.1; omega⟩)
      simp (maxSteps := 4000000) [List.getElem?_cons_zero, List.getElem?_cons_succ, hcM, hO, hP, Tryz.results24]
    | false =>
      have hR' : R = .inr (M.length, 11) := by
        rcases hrest with ⟨h, _⟩ | ⟨_, _, h⟩
        · rw [← htl] at h; simp at h
        · exact h
      rw [hR'] at hP
      simp (maxSteps := 4000000) [List.getElem?_cons_zero, List.getElem?_cons_succ, hcM, hP, Tryz.results24]
end Go.Proofs.Tryz.Ai
end
section
/- sumfile: locks printed, both. -/
namespace Go.Proofs.Tryz.Ai
open Go Go.AI Go.Proofs Go.B64
set_option maxHeartbeats 8000000
set_option maxRecDepth 4000
set_option linter.unusedVariables false

theorem few_eq (l : List Ln) (hl : l.length ≤ 2 ^ 30) (h : ∀ k ∈ l, k.1.1.length ≤ 2 ^ 30 ∧ k.1.2.length ≤ 2 ^ 30 ∧ k.2.2.length ≤ 2 ^ 30) (σ) : ∃ b, ev 12 [.sl .sh (l.map lnF)] σ = some (.bool b, σ) ∧ (b = true → l.length ≤ 100) := by
  suffices hx : ∃ r : AV × List (List AV), ev 12 [.sl .sh (l.map lnF)] σ = some r ∧ ∃ b, r = (.bool b, σ) ∧ (b = true → l.length ≤ 100) by
    obtain ⟨r, h1, b, rfl, h2⟩ := hx
    exact ⟨b, h1, h2⟩
  refine EV_postE rfl Tryz.func12 rfl (by simp [Tryz.ntmps12]) (by kernel_rfl) (by kernel_rfl) ?_
  simp (maxSteps := 4000000) [List.getElem?_cons_zero, List.getElem?_cons_succ, ]
  refine Post_loop (I := fun p : Nat × Nat => ⟨[(0, .sl .sh (l.map lnF)), (3, .int .i64 p.1), (4, .int .i64 p.2)], [], σ⟩) (Pr := fun p => p.1 ≤ 16000 ∧ p.2 ≤ l.length) (μ := fun p => l.length - p.2) (a := (0, 0)) (by simp) (by simp) ?_
  rintro ⟨n, i⟩ ⟨hn, hi⟩
  simp only at hn hi ⊢
  by_cases hc : i < l.length
  · by_cases h20 : i ≤ 100
    · obtain ⟨k, hx⟩ : ∃ k, l[i]? = some k := ⟨_, List.getElem?_eq_getElem hc⟩
      have hk := h k (List.mem_of_getElem? hx)
      obtain ⟨⟨k1, k2⟩, k3, k4⟩ := k
      simp only at hk
      have mn : ∀ m : Nat, ∃ a : Nat, (if 8000 < m then (8000 : Int) else (m : Int)) = (a : Int) ∧ a ≤ 8000 := fun m => by
        by_cases hq : 8000 < m
        · exact ⟨8000, by rw [if_pos hq]; rfl, by omega⟩
        · exact ⟨m, by rw [if_neg hq], by omega⟩
      obtain ⟨a, ha, ha2⟩ := mn k1.length
      obtain ⟨b, hb, hb2⟩ := mn k2.length
      obtain ⟨d, hd, hd2⟩ := mn k4.length
      have w1 : IntKind.i64.wrap ((n : Int) + a) = ((n + a : Nat) : Int) := by rw [wrap64 (by omega)]; omega
      have w2 : IntKind.i64.wrap (((n + a : Nat) : Int) + b) = ((n + a + b : Nat) : Int) := by rw [wrap64 (by omega)]; omega
      have w4 : IntKind.i64.wrap (((n + a + b : Nat) : Int) + d) = ((n + a + b + d : Nat) : Int) := by rw [wrap64 (by omega)]; omega
      obtain ⟨c, hcc, hc2⟩ : ∃ c : Nat, (if 16000 < n + a + b + d then (16000 : Int) else ((n + a + b + d : Nat) : Int)) = (c : Int) ∧ c ≤ 16000 := by
        by_cases hq : 16000 < n + a + b + d
        · exact ⟨16000, by rw [if_pos hq]; rfl, by omega⟩
        · exact ⟨n + a + b + d, by rw [if_neg hq], by omega⟩
      obtain ⟨na, hna⟩ : ∃ x, n + a = x := ⟨_, rfl⟩
      rw [hna] at w1 w2 w4 hcc
      obtain ⟨nab, hnab⟩ : ∃ x, na + b = x := ⟨_, rfl⟩
      rw [hnab] at w2 w4 hcc
      obtain ⟨nabd, hnabd⟩ : ∃ x, nab + d = x := ⟨_, rfl⟩
      rw [hnabd] at w4 hcc
      have w3 : IntKind.i64.wrap ((i : Int) + 1) = (i : Int) + 1 := wrap64 (by omega)
      simp (maxSteps := 4000000) [List.getElem?_cons_zero, List.getElem?_cons_succ, -getElem?_pos, -Prod.exists, -regionA_true, hc, h20]
      refine Post_bndD [] _ (by rfl) (by simp (maxSteps := 4000000) [List.getElem?_cons_zero, List.getElem?_cons_succ, ]; exact rfl) ?_
      repeat (first
        | refine PostD_go _ (by rfl) (by rfl) (by simp (maxSteps := 4000000) [List.getElem?_cons_zero, List.getElem?_cons_succ, -getElem?_pos, hc, hx, lnFx, ha, hb, hd, w1, w2, w4, hcc]; exact rfl) (by first | exact .inl rfl | exact .inr rfl) (by rfl) ?_
        | refine PostD_no1 _ (by rfl) (by rfl) (by simp (maxSteps := 4000000) [List.getElem?_cons_zero, List.getElem?_cons_succ, ]; exact rfl) ?_)
      refine PostD_end ?_
      simp (maxSteps := 4000000) [List.getElem?_cons_zero, List.getElem?_cons_succ, -Prod.exists, w3]
      exact ⟨(c, i + 1), ⟨by simp; omega, by simp; omega⟩, by simp; omega, by simp⟩
    · have hl20 : ¬ l.length ≤ 100 := by omega
      simp (maxSteps := 4000000) [List.getElem?_cons_zero, List.getElem?_cons_succ, hc, h20, hl20, Tryz.results12]
  · by_cases hl20 : l.length ≤ 100
    · simp (maxSteps := 4000000) [List.getElem?_cons_zero, List.getElem?_cons_succ, hc, hl20, Tryz.results12]
      refine ⟨_, _, ⟨rfl, rfl⟩, ?_⟩
      cases decide (n ≤ 8000) <;> simp
    · simp (maxSteps := 4000000) [List.getElem?_cons_zero, List.getElem?_cons_succ, hc, hl20, Tryz.results12]
/-- for the document -/
theorem Lines_eq (l : List Ln) (hl : l.length ≤ 2 ^ 30) (σ) : ev 15 [.sl .sh (l.map lnF)] σ = some (.sl (.ex 82 4) (l.map lnF), σ) := by
  refine EV_post rfl Tryz.func15 rfl (by simp [Tryz.ntmps15]) (by kernel_rfl) (by kernel_rfl) ?_
  simp (maxSteps := 4000000) [List.getElem?_cons_zero, List.getElem?_cons_succ, ]
  refine Post_loop (I := fun i : Nat => ⟨[(0, .sl .sh (l.map lnF)), (3, .sl (.ex 82 4) ((l.map lnF).take i)), (4, .int .i64 i)], [], σ⟩) (Pr := fun i => i ≤ l.length) (μ := fun i => l.length - i) (a := 0) (by simp) (by simp) ?_
  intro i hi
  have w1 : IntKind.i64.wrap ((i : Int) + 1) = (i : Int) + 1 := wrap64 (by omega)
  by_cases hc : i < l.length
  · obtain ⟨x, hx⟩ : ∃ x, l[i]? = some x := ⟨_, List.getElem?_eq_getElem hc⟩
    have hfin : (l.map lnF).take (i + 1) = (l.map lnF).take i ++ [lnF x] := by rw [List.take_add_one, List.getElem?_map, hx]; rfl
    have hLl : ((l.map lnF).take i).length = i := by rw [List.length_take, List.length_map]; omega
    have hall : allCells 4 ((l.map lnF).take i) := fun c hc => by
      obtain ⟨z, _, hz⟩ := List.mem_map.mp (List.mem_of_mem_take hc)
      rw [← hz]; simp [lnF, AV.cells]
    have hm : ((l.map lnF).take i).length + 1 ≤ most := by rw [hLl]; unfold most; omega
    obtain ⟨L, hL⟩ : ∃ L, (l.map lnF).take i = L := ⟨_, rfl⟩
    rw [hL] at hfin hLl hall hm ⊢
    obtain ⟨⟨x1, x2⟩, x3, x4⟩ := x
    simp (maxSteps := 4000000) [List.getElem?_cons_zero, List.getElem?_cons_succ, -getElem?_pos, -Prod.forall, -regionA_true, hc]
    refine Post_bndD [] _ (by rfl) (by simp (maxSteps := 4000000) [List.getElem?_cons_zero, List.getElem?_cons_succ, ]; exact rfl) ?_
    repeat (first
      | refine PostD_go _ (by rfl) (by rfl) (by simp (maxSteps := 4000000) [List.getElem?_cons_zero, List.getElem?_cons_succ, -getElem?_pos, hc, hx, lnFx, hm, hall]; exact rfl) (by first | exact .inl rfl | exact .inr rfl) (by rfl) ?_
      | refine PostD_no1 _ (by rfl) (by rfl) (by simp (maxSteps := 4000000) [List.getElem?_cons_zero, List.getElem?_cons_succ, ]; exact rfl) ?_)
    refine PostD_end ?_
    simp (maxSteps := 4000000) [List.getElem?_cons_zero, List.getElem?_cons_succ, -Prod.forall, w1]
    exact ⟨i + 1, by omega, by omega, by rw [hfin]; simp [lnF], by simp⟩
  · have e : (l.map lnF).take i = l.map lnF := List.take_of_length_le (by rw [List.length_map]; omega)
    rw [e]
    simp (maxSteps := 4000000) [List.getElem?_cons_zero, List.getElem?_cons_succ, hc, Tryz.results15]
theorem SameLines_eq (a b : List Ln) (ha : a.length ≤ 2 ^ 30) (σ) : ev 19 [.sl .sh (a.map lnF), .sl .sh (b.map lnF)] σ = some (.bool (decide (a = b)), σ) := by
  refine EV_post rfl Tryz.func19 rfl (by simp [Tryz.ntmps19]) (by kernel_rfl) (by kernel_rfl) ?_
  by_cases hl : a.length = b.length
  · simp (maxSteps := 4000000) [List.getElem?_cons_zero, List.getElem?_cons_succ, hl]
    refine Post_loop (I := fun i : Nat => ⟨[(0, .sl .sh (a.map lnF)), (1, .sl .sh (b.map lnF)), (5, .int .i64 i)], [], σ⟩) (Pr := fun i => i ≤ a.length ∧ a.take i = b.take i) (μ := fun i => a.length - i) (a := 0) (by simp) (by simp) ?_
    rintro i ⟨i1, i2⟩
    have w1 : IntKind.i64.wrap ((i : Int) + 1) = (i : Int) + 1 := wrap64 (by omega)
    by_cases hc : i < a.length
    · obtain ⟨x, hx⟩ : ∃ z, a[i]? = some z := ⟨_, List.getElem?_eq_getElem hc⟩
      obtain ⟨y, hy⟩ : ∃ z, b[i]? = some z := ⟨_, List.getElem?_eq_getElem (by omega)⟩
      have hcb : i < b.length := by omega
      have hne : x ≠ y → decide (a = b) = false := fun h => by
        rw [decide_eq_false_iff_not]
        intro e; subst e
        rw [hx] at hy; injection hy with hy; exact h hy
      obtain ⟨⟨x1, x2⟩, x3, x4⟩ := x
      obtain ⟨⟨y1, y2⟩, y3, y4⟩ := y
      by_cases e1 : (x1 == y1 && x2 == y2) = true
      · by_cases e3 : x3 = y3
        · by_cases e4 : (x4 == y4) = true
          · have hxy : (((x1, x2), x3, x4) : Ln) = ((y1, y2), y3, y4) := by
              simp at e1 e4
              rw [e1.1, e1.2, e3, e4]
            rw [hxy] at hx
            simp (maxSteps := 4000000) [List.getElem?_cons_zero, List.getElem?_cons_succ, -getElem?_pos, -Prod.exists, -Prod.forall, -Bool.and_eq_true, -beq_iff_eq, -regionA_true, hl, hc, hcb]
            refine Post_bndD [] _ (by rfl) (by simp (maxSteps := 4000000) [List.getElem?_cons_zero, List.getElem?_cons_succ, ]; exact rfl) ?_
            repeat (first
              | refine PostD_go _ (by rfl) (by rfl) (by simp (maxSteps := 4000000) [List.getElem?_cons_zero, List.getElem?_cons_succ, -getElem?_pos, -Bool.and_eq_true, -beq_iff_eq, hc, hcb, hl, hx, hy, lnFx, e1, eq_true e3, e4]; exact rfl) (by first | exact .inl rfl | exact .inr rfl) (by rfl) ?_
              | refine PostD_no1 _ (by rfl) (by rfl) (by simp (maxSteps := 4000000) [List.getElem?_cons_zero, List.getElem?_cons_succ, ]; exact rfl) ?_)
            refine PostD_end ?_
            simp (maxSteps := 4000000) [List.getElem?_cons_zero, List.getElem?_cons_succ, -Prod.exists, -Prod.forall, w1]
            exact ⟨i + 1, ⟨by omega, by rw [List.take_add_one, List.take_add_one, hx, hy, i2]⟩, by omega, by simp⟩
          · have hh := hne (fun e => e4 (by simp at e; simp [e.2.2]))
            have e4' : (x4 == y4) = false := by simpa using e4
            simp (maxSteps := 4000000) [List.getElem?_cons_zero, List.getElem?_cons_succ, -getElem?_pos, -Prod.exists, -Prod.forall, -Bool.and_eq_true, -beq_iff_eq, -regionA_true, hl, hc, hcb]
            refine Post_bndD [] _ (by rfl) (by simp (maxSteps := 4000000) [List.getElem?_cons_zero, List.getElem?_cons_succ, ]; exact rfl) ?_
            repeat (first
              | refine PostD_go _ (by rfl) (by rfl) (by simp (maxSteps := 4000000) [List.getElem?_cons_zero, List.getElem?_cons_succ, -getElem?_pos, -Bool.and_eq_true, -beq_iff_eq, -beq_eq_false_iff_ne, hc, hcb, hl, hx, hy, lnFx, e1, eq_true e3, e4']; exact rfl) (by first | exact .inl rfl | exact .inr rfl) (by rfl) ?_
              | refine PostD_no1 _ (by rfl) (by rfl) (by simp (maxSteps := 4000000) [List.getElem?_cons_zero, List.getElem?_cons_succ, ]; exact rfl) ?_)
            refine PostD_end ?_
            simp (maxSteps := 4000000) [List.getElem?_cons_zero, List.getElem?_cons_succ, hh, Tryz.results19]
        · have hh := hne (fun e => e3 (by simp at e; exact e.2.1))
          simp (maxSteps := 4000000) [List.getElem?_cons_zero, List.getElem?_cons_succ, -getElem?_pos, -Prod.exists, -Prod.forall, -Bool.and_eq_true, -beq_iff_eq, -regionA_true, hl, hc, hcb]
          refine Post_bndD [] _ (by rfl) (by simp (maxSteps := 4000000) [List.getElem?_cons_zero, List.getElem?_cons_succ, ]; exact rfl) ?_
          repeat (first
            | refine PostD_go _ (by rfl) (by rfl) (by simp (maxSteps := 4000000) [List.getElem?_cons_zero, List.getElem?_cons_succ, -getElem?_pos, -Bool.and_eq_true, -beq_iff_eq, hc, hcb, hl, hx, hy, lnFx, e1, e3]; exact rfl) (by first | exact .inl rfl | exact .inr rfl) (by rfl) ?_
            | refine PostD_no1 _ (by rfl) (by rfl) (by simp (maxSteps := 4000000) [List.getElem?_cons_zero, List.getElem?_cons_succ, ]; exact rfl) ?_)
          refine PostD_end ?_
          simp (maxSteps := 4000000) [List.getElem?_cons_zero, List.getElem?_cons_succ, hh, Tryz.results19]
      · have hh := hne (fun e => e1 (by simp at e; simp [e.1]))
        have e1' : (x1 == y1 && x2 == y2) = false := by simpa using e1
        simp (maxSteps := 4000000) [List.getElem?_cons_zero, List.getElem?_cons_succ, -getElem?_pos, -Prod.exists, -Prod.forall, -Bool.and_eq_true, -beq_iff_eq, -regionA_true, hl, hc, hcb]
        refine Post_bndD [] _ (by rfl) (by simp (maxSteps := 4000000) [List.getElem?_cons_zero, List.getElem?_cons_succ, ]; exact rfl) ?_
        repeat (first
          | refine PostD_go _ (by rfl) (by rfl) (by simp (maxSteps := 4000000) [List.getElem?_cons_zero, List.getElem?_cons_succ, -getElem?_pos, -Bool.and_eq_true, -Bool.and_eq_false_imp, -beq_iff_eq, hc, hcb, hl, hx, hy, lnFx, e1']; exact rfl) (by first | exact .inl rfl | exact .inr rfl) (by rfl) ?_
          | refine PostD_no1 _ (by rfl) (by rfl) (by simp (maxSteps := 4000000) [List.getElem?_cons_zero, List.getElem?_cons_succ, ]; exact rfl) ?_)
        refine PostD_end ?_
        simp (maxSteps := 4000000) [List.getElem?_cons_zero, List.getElem?_cons_succ, hh, Tryz.results19]
    · have hab : a = b := by
        rw [List.take_of_length_le (by omega), List.take_of_length_le (by omega)] at i2
        exact i2
      have hd : decide (a = b) = true := by rw [hab]; simp
      have hcb : ¬ i < b.length := by omega
      simp (maxSteps := 4000000) [List.getElem?_cons_zero, List.getElem?_cons_succ, hcb, hc, hl, hd, Tryz.results19]
  · have hd : decide (a = b) = false := by rw [decide_eq_false_iff_not]; intro e; exact hl (by rw [e])
    simp (maxSteps := 4000000) [List.getElem?_cons_zero, List.getElem?_cons_succ, hl, hd, Tryz.results19]
end Go.Proofs.Tryz.Ai
end
