/- Part 13 of a proof: Go functions are evaluated on abstract values; no conditions beyond those of each theorem. -/
import Derived.Test.YtjkkcelnfokplaaGreatDoorFi12
set_option linter.all false
set_option maxHeartbeats 16000000
set_option maxRecDepth 4000
section
namespace Go.Proofs.Tryz.Ai
open Go Go.AI Go.Proofs
theorem qrj {κ : K} : ∀ {EE : κ.d.α → List AV} {ty sz : Nat} (kk : KOk κ EE ty sz) {g : Nat} {c : κ.d.α → κ.d.α → Int} {Q : κ.d.α → Prop} (h : CmpOkK κ EE g c Q) (n : Nat), MrgOkK κ EE ty sz g c Q n := by
  cases κ
  all_goals
    dsimp only [K.d]
    intro EE ty sz kk g c Q h n
    induction n using Nat.strongRecOn
    rename_i n ih
    unfold MrgOkK at ih ⊢
    dsimp only [K.d] at ih ⊢
    intro b σ pre L R post N a m e hn hN hNe ha hm he hL0 hR0 hL hR hQL hQR hb
    by_cases l1 : L.length = 1
    · obtain ⟨x, rfl⟩ := List.length_eq_one_iff.1 l1
      exact qou kk h b σ pre x R post N a m e hN (by simpa using hNe) ha (by simpa using hm) he hR (hQL x (by simp)) hQR hb
    by_cases r1 : R.length = 1
    · obtain ⟨x, rfl⟩ := List.length_eq_one_iff.1 r1
      exact qma kk h b σ pre x L post N a m e hN (by simpa using hNe) ha hm (by simpa using he) (by omega) hL (hQR x (by simp)) hQL hb
    obtain ⟨D, hD⟩ : ∃ D, pre ++ (L ++ (R ++ post)) = D := ⟨_, rfl⟩
    have hDl : D.length = N := by rw [← hD]; simp; omega
    have hDL : ∀ k, k < L.length → D[a + k]? = L[k]? := by
      intro k hk
      rw [← hD, ha, List.getElem?_append_right (by omega), List.getElem?_append_left (by omega)]
      congr 1; omega
    have hDR : ∀ k, k < R.length → D[m + k]? = R[k]? := by
      intro k hk
      rw [← hD, hm, ha, List.getElem?_append_right (by omega), List.getElem?_append_right (by omega), List.getElem?_append_left (by omega)]
      congr 1; omega
    have w0 : IntKind.i64.wrap ((m : Int) - a) = (L.length : Int) := by rw [qh (by omega)]; omega
    have w1 : IntKind.i64.wrap ((e : Int) - m) = (R.length : Int) := by rw [qh (by omega)]; omega
    have hgl := h.lt
    have q0 : ¬ (L.length : Int) = 1 := by omega
    have q1 : ¬ (R.length : Int) = 1 := by omega
    obtain ⟨mid, nn, p0, S0, S1, k0, hw1, hw2, hw3, hw4, w2, w4, k1, k2⟩ := qu3 (l := L.length) (r := R.length) (N := N) hm he (by omega) hN (by omega) (by omega)
    obtain ⟨k01, k02, k03, k04, k05, k06, k07, k08, k09, k10, k11⟩ := k0
    have hlow := qcq (σ := σ) (b := b) (X := rowE EE D) (K.low kk _ (pre ++ (mrg c L R ++ post)))
    rw [hD]
    obtain ⟨fin, hfin⟩ : ∃ X, rowE EE (pre ++ (mrg c L R ++ post)) = X := ⟨_, rfl⟩
    rw [hfin] at hlow ⊢
    have qr := @qot _ _ _ _ kk
    have eg := K.get kk
    have eb := K.bnd kk
    have es := K.set kk
    have ed := K.dem kk
    have lo := K.low kk
    obtain ⟨hE, hty, hsz⟩ := kk
    dsimp only [K.d] at qr eg eb es ed lo hE hty hsz
    simp only [hty, hsz] at qr ih
  refine qk func186 ntmps186 ?_
  rotate_left
  refine qk func198 ntmps198 ?_
  rotate_left
  refine qk func189 ntmps189 ?_
  rotate_left
  refine qk func260 ntmps260 ?_
  rotate_left
  all_goals
    simp only [esQ, esT, esP, esM] at hE
    simp only [hE, List.cons_append, List.nil_append] at eg es
    have hae : ((a + e : Nat) : Int) = (a : Int) + e := by omega
    rw [hae] at hw1 hw2 hw3
    simp (maxSteps := mS) [-Prod.forall, hty, hsz, ed, w0, w1, q0, q1, l1, r1, hw1, hw2, hw3, hw4, w2]
    clear hae
    refine qos (st2 := ⟨[(0, .ms ty sz b 0 N), (1, .int .i64 a), (2, .int .i64 m), (3, .int .i64 e), (4, .fn g []), (18, .int .i64 mid), (19, .int .i64 nn), (20, .int .i64 S0), (21, .int .i64 S1)], [], σ.set b (rowE EE D)⟩) ?_ ?_
    · by_cases hmm : mid < m
      · obtain ⟨w3, e1⟩ := k1 hmm
        simp [hty, hsz, hmm, w3, e1]
      · obtain ⟨e0, e1⟩ := k2 hmm
        simp [hty, hsz, hmm, e0, e1]
    clear k1 k2
    simp (maxSteps := mS) [-Prod.forall, hty, hsz, ed, w4]
    clear w0 w1 w2 w4 hw1 hw2 hw3 hw4 q0 q1 l1 r1
    refine qf (I := fun p : Nat × Nat => ⟨[(0, .ms ty sz b 0 N), (1, .int .i64 a), (2, .int .i64 m), (3, .int .i64 e), (4, .fn g []), (18, .int .i64 mid), (19, .int .i64 nn), (20, .int .i64 p.1), (21, .int .i64 p.2), (22, .int .i64 p0)], [], σ.set b (rowE EE D)⟩)
      (Pr := fun p => S0 ≤ p.1 ∧ p.1 ≤ p.2 ∧ p.2 ≤ S1 ∧ (p.1 = S0 ∨ qwm c L R (p.1 - a) (mid - p.1)) ∧ (p.2 = S1 ∨ qwn c L R (p.2 - a) (mid - p.2))) (μ := fun p => p.2 - p.1) (a := (S0, S1)) (by simp [hty, hsz]) ⟨Nat.le_refl _, k02, Nat.le_refl _, .inl rfl, .inl rfl⟩ ?_
    rintro ⟨i, j⟩ ⟨h1, h2, h3, h4, h5⟩
    simp only at h1 h2 h3 h4 h5 ⊢
    by_cases hc : i < j
    · have hw := half_w (i := i) (j := j) (by omega)
      obtain ⟨z, hz⟩ : ∃ z, i + j = z := ⟨_, rfl⟩
      obtain ⟨k, hk⟩ : ∃ z, (i + j) / 2 = z := ⟨_, rfl⟩
      rw [hk, hz] at hw
      obtain ⟨hv1, hv2, hv3, hv4⟩ := hw
      have hk1 : i ≤ k ∧ k < j := by omega
      obtain ⟨x, hx⟩ : ∃ y, L[k - a]? = some y := ⟨_, List.getElem?_eq_getElem (by omega)⟩
      obtain ⟨y, hy⟩ : ∃ y, R[mid - k - 1]? = some y := ⟨_, List.getElem?_eq_getElem (by omega)⟩
      obtain ⟨k2, hk2⟩ : ∃ z, m + (mid - k - 1) = z := ⟨_, rfl⟩
      have hDx : D[k]? = some x := by rw [← hx, ← hDL _ (by omega)]; congr 1; omega
      have hDy : D[k2]? = some y := by rw [← hy, ← hDR _ (by omega), hk2]
      have g1 := eg _ _ _ hDx
      have r1 := eb _ _ (List.getElem?_eq_some_iff.1 hDx).1
      have g2 := eg _ _ _ hDy
      have r2 := eb _ _ (List.getElem?_eq_some_iff.1 hDy).1
      have hcmp := h.run y x (hQR y (List.mem_of_getElem? hy)) (hQL x (List.mem_of_getElem? hx))
      simp only [hE] at hcmp
      have p1 : k < N := by omega
      have p2 : k2 < N := by omega
      have v5 : IntKind.i64.wrap ((p0 : Int) - k) = (k2 : Int) := by rw [qh (by omega)]; omega
      have v6 : IntKind.i64.wrap ((k : Int) + 1) = ((k + 1 : Nat) : Int) := by rw [qh (by omega)]; omega
      simp (maxSteps := mS) [-Prod.forall, hty, hsz, ed, -qb, hc, hv1, hv2, hv3, hv4]
      refine qg [] _ (k := ?_)
      repeat (first | refine qd _ (hs := by simp (maxSteps := mS) [hty, hsz, ed, -getElem?_pos, p1, p2, v5, g1, g2, r1, r2, hgl, hcmp, hb]; exact rfl) (k := ?_) | refine qaj (by rfl) (by rfl) ?_)
      refine qc ?_
      by_cases hlt : c y x < 0
      · simp (maxSteps := mS) [-Prod.forall, hty, hsz, ed, hlt]
        refine ⟨i, k, ⟨by omega, by omega, by omega, ?_, .inr ⟨x, y, hx, hy, hlt⟩⟩, by omega, by simp, by simp⟩
        exact h4
      · simp (maxSteps := mS) [-Prod.forall, hty, hsz, ed, hlt, v6]
        refine ⟨k + 1, j, ⟨by omega, by omega, by omega, .inr ⟨x, y, ?_, ?_, hlt⟩, h5⟩, by omega, by simp⟩
        · rw [← hx]; congr 1; omega
        · rw [← hy]; congr 1
    · obtain rfl : i = j := by omega
      obtain ⟨s, hs⟩ : ∃ s, i - a = s := ⟨_, rfl⟩
      obtain ⟨t, ht⟩ : ∃ t, mid - i = t := ⟨_, rfl⟩
      rw [hs, ht] at h4 h5
      have hcut := qx5 h.tp hL hR (s := s) (t := t) (by
        rcases h4 with h4 | h4
        · by_cases q : s = 0
          · exact .inl q
          · exact .inr (.inl (by omega))
        · exact .inr (.inr h4)) (by
        rcases h5 with h5 | h5
        · by_cases q : t = 0
          · exact .inl q
          · exact .inr (.inl (by omega))
        · exact .inr (.inr h5))
      obtain ⟨E, hE⟩ : ∃ E, nn - i = E := ⟨_, rfl⟩
      have v1 : IntKind.i64.wrap ((nn : Int) - i) = (E : Int) := by rw [qh (by omega)]; omega
      have hsL : s ≤ L.length := by omega
      have htR : t ≤ R.length := by omega
      have hi : i = a + s := by omega
      have hmi : mid = a + (s + t) := by omega
      have hEm : E = m + t := by omega
      clear h4 h5
      have hLs := List.take_append_drop s L
      have hRs := List.take_append_drop t R
      have lA : (L.take s).length = s := by simp; omega
      have lB : (L.drop s).length = L.length - s := by simp
      have lC : (R.take t).length = t := by simp; omega
      have lD : (R.drop t).length = R.length - t := by simp
      have sA := qng hL s
      have sB := qnh hL s
      have sC := qng hR t
      have sD := qnh hR t
      have QA : ∀ x ∈ L.take s, Q x := fun x hx => hQL x (List.mem_of_mem_take hx)
      have QB : ∀ x ∈ L.drop s, Q x := fun x hx => hQL x (List.mem_of_mem_drop hx)
      have QC : ∀ x ∈ R.take t, Q x := fun x hx => hQR x (List.mem_of_mem_take hx)
      have QD : ∀ x ∈ R.drop t, Q x := fun x hx => hQR x (List.mem_of_mem_drop hx)
      rw [hcut] at hfin
      generalize L.take s = A at *
      generalize L.drop s = B at *
      generalize R.take t = C at *
      generalize R.drop t = F at *
      subst hLs hRs
      simp only [List.length_append] at *
      have hrot : 0 < B.length → 0 < C.length → _ := fun q1 q2 => qr b σ (pre ++ A) B C (F ++ post) g N i m E hN (by simp; omega) (by simp; omega) (by omega) (by omega) q1 q2 hb
      have hm1 : 0 < A.length → 0 < C.length → _ := fun q1 q2 => ih (s + t) (by omega) b σ pre A C (B ++ (F ++ post)) N a i mid (by omega) hN (by simp; omega) ha (by omega) (by omega) q1 q2 sA sC QA QC hb
      have hm2 : 0 < B.length → 0 < F.length → _ := fun q1 q2 => ih (B.length + F.length) (by omega) b σ (pre ++ mrg c A C) B F post N mid E e rfl hN (by simp [(qft A C).length_eq]; omega) (by simp [(qft A C).length_eq]; omega) (by omega) (by omega) q1 q2 sB sD QB QD hb
      simp only [List.append_assoc] at hrot hm1 hm2 hfin hD
      rw [hD] at hrot
      have n1 : ¬ (0 < B.length ∧ 0 < C.length) → rowE EE D = rowE EE (pre ++ (A ++ (C ++ (B ++ (F ++ post))))) := by
        intro q
        rw [← hD]
        rcases Nat.eq_zero_or_pos B.length with q1 | q1
        · rw [List.length_eq_zero_iff.1 q1]; simp
        · rw [List.length_eq_zero_iff.1 (show C.length = 0 by omega)]; simp
      have n2 : ¬ (0 < A.length ∧ 0 < C.length) → rowE EE (pre ++ (A ++ (C ++ (B ++ (F ++ post))))) = rowE EE (pre ++ (mrg c A C ++ (B ++ (F ++ post)))) := by
        intro q
        rcases Nat.eq_zero_or_pos A.length with q1 | q1
        · rw [List.length_eq_zero_iff.1 q1]; simp
        · rw [List.length_eq_zero_iff.1 (show C.length = 0 by omega)]; simp
      have n3 : ¬ (0 < B.length ∧ 0 < F.length) → rowE EE (pre ++ (mrg c A C ++ (B ++ (F ++ post)))) = fin := by
        intro q
        rw [← hfin]
        rcases Nat.eq_zero_or_pos B.length with q1 | q1
        · rw [List.length_eq_zero_iff.1 q1]; simp
        · rw [List.length_eq_zero_iff.1 (show F.length = 0 by omega)]; simp
      rw [hfin] at hm2
      generalize rowE EE D = X0 at *
      generalize rowE EE (pre ++ (A ++ (C ++ (B ++ (F ++ post))))) = X1 at *
      generalize rowE EE (pre ++ (mrg c A C ++ (B ++ (F ++ post)))) = X2 at *
      clear hfin hcut hDL hDR ih k05 k06 k07 hD hDl
      have hrot' : i < m → m < E → _ := fun q1 q2 => hrot (by omega) (by omega)
      have hm1' : a < i → i < mid → _ := fun q1 q2 => hm1 (by omega) (by omega)
      have hm2' : mid < E → E < e → _ := fun q1 q2 => hm2 (by omega) (by omega)
      clear hrot hm1 hm2
      by_cases c1 : i < m <;> by_cases c2 : m < E <;> by_cases c4 : i < mid <;> by_cases c5 : mid < E <;> (first | (exfalso; omega) | skip)
      all_goals by_cases c3 : a < i <;> by_cases c6 : E < e <;> (first | (exfalso; omega) | skip)
      all_goals
        (try have e1 := n1 (by omega)
         try have e2 := n2 (by omega)
         try have e3 := n3 (by omega)
         clear n1 n2 n3
         try subst e1
         try subst e2
         try subst e3
         clear lA lB lC lD sA sB sC sD QA QB QC QD hL hR hQL hQR hL0 hR0 hsL htR hn hNe hi hmi hEm hm he)
      all_goals
        (simp (maxSteps := mS) [-Prod.forall, hty, hsz, ed, v1, c1, c2, c3, c4, c5, c6, hrot', hm1', hm2']
         try rw [qo hlow])
end Go.Proofs.Tryz.Ai
end
