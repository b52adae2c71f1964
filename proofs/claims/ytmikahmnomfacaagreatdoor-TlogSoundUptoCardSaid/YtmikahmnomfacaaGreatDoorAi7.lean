/- Part 7 of a proof: a Go function is evaluated on abstract values (texts TL21 .. TL25); no conditions beyond those of each theorem. -/
import Derived.Test.YtmikahmnomfacaaGreatDoorAi6
set_option linter.all false
set_option linter.unusedVariables false
set_option linter.unusedSimpArgs false
set_option linter.unnecessarySimpa false
section
/- A log's hashes in boxes; what stands in the boxes of the statement that turns bits. -/
namespace Go.Proofs.Tryz.Ai
open Go Go.AI Go.Proofs
set_option maxHeartbeats 1000000
set_option linter.unusedVariables false

section
variable {s : List (List AV)} {p q : Nat} {LB : List (List UInt8)}
theorem LogOf.hashM (h : LogOf s p q LB) (i : Nat) (hi : i < LB.length) :
    ev (100000 + 11) [logP p, .int .i64 0, .int .i64 i] s = some (.tup [.ms 5 1 s.length 0 32, .int .i64 0], s ++ [(leafF LB i).map .u8]) := by
  have e1 := h.at'.log
  have e2 := h.at'.row
  have hr0 := h.row0
  have hle := (List.getElem?_eq_some_iff.1 hr0).1
  have e3 : ((rowsB LB).map rowA)[0]? = some (.sl (rowO (rowT nodeB (leafF LB) 0 LB.length)) (hs (rowT nodeB (leafF LB) 0 LB.length))) := by rw [List.getElem?_map, hr0]; rfl
  have hrl : (rowT nodeB (leafF LB) 0 LB.length).length = LB.length := rowT_len
  have hrg : (rowT nodeB (leafF LB) 0 LB.length)[i]? = some (leafF LB i) := by rw [rowT_get hi]; rfl
  have hf := freshM_eq .sh (leafF LB i) (leafF_len32 LB h.small i hi) s
  obtain ⟨r, hrd⟩ : ∃ r, rowT nodeB (leafF LB) 0 LB.length = r := ⟨_, rfl⟩
  rw [hrd] at e3 hrl hrg
  have e4 : (hs r)[i]? = some (.sl .sh ((leafF LB i).map .u8)) := by simp [hs, hrg]
  have hXl : (hs r).length = r.length := by simp [hs]
  obtain ⟨n, hn⟩ : ∃ n, (rowsB LB).length = n := ⟨_, rfl⟩
  rw [hn] at e1 hle
  have hl0 : ¬ n = 0 := by omega
  have hil : ¬ LB.length ≤ i := by omega
  simp only [logP]
  generalize (rowsB LB).map rowA = C at *
  generalize hs r = X at *
  generalize leafF LB i = Y at *
  refine EV_post rfl Tryz.func11 rfl (by simp [Tryz.ntmps11]) (by kernel_rfl) (by kernel_rfl) ?_
  simp (maxSteps := 4000000) [List.getElem?_cons_zero, List.getElem?_cons_succ, -getElem?_pos, e1, e2, e3, e4, hle, hl0, hrl, hil, hXl, hi, hf, Tryz.results11]
theorem RootM_eq (h : LogOf s p q LB) (n : Nat) (h1 : 1 ≤ n) (hn : n ≤ LB.length) :
    ev (100000 + 75) [.int .i64 n, .fb 11 [logP p]] s = some (.tup [.ms 5 1 s.length 0 32, .int .i64 0], s ++ [(spanT nodeB (leafF LB) 0 n).map .u8]) := by
  have hlen := h.len
  have hH := hash_eqB (h.rd LB.length) (by omega) n 0 0 h1 (algn_zero n) (by omega)
  obtain ⟨j, _, e | ⟨_, c, _⟩⟩ := hashP_tells h.tells n 0 0 h1 (algn_zero n) (by omega) (by omega)
  · rw [e] at hH
    have h32 : (spanT nodeB (leafF LB) 0 n).length = 32 := spanT_len32 _ _ _ h1 fun i hi => leafF_len32 LB h.small _ (by omega)
    have hf := freshM_eq .sh (spanT nodeB (leafF LB) 0 n) h32 s
    simp only [logRd, logP] at hH ⊢
    have hH' : ev 50 [.int .i64 0, .int .i64 n, .fb 11 [.gp p 0 (some (80, 1))]] s = some (.tup [.sl .sh ((spanT nodeB (leafF LB) 0 n).map .u8), .int .i64 0], s) := hH
    generalize spanT nodeB (leafF LB) 0 n = X at *
    have c1 : ¬ 1048576 < n := by omega
    have c2 : ¬ n = 0 := by omega
    refine EV_post rfl Tryz.func75 rfl (by simp [Tryz.ntmps75]) (by kernel_rfl) (by kernel_rfl) ?_
    simp (maxSteps := 4000000) [List.getElem?_cons_zero, List.getElem?_cons_succ, c1, c2, hH', hf, Tryz.results75]
  · cases c
theorem LogOf.rootM (h : LogOf s p q LB) (n : Nat) (h1 : 1 ≤ n) (hn : n ≤ LB.length) :
    ev (100000 + 35) [logP p, .int .i64 n] s = some (.tup [.ms 5 1 s.length 0 32, .int .i64 0], s ++ [(spanT nodeB (leafF LB) 0 n).map .u8]) := by
  have hS := h.size
  have hR := RootM_eq h n h1 hn
  have hc : ¬ LB.length < n := by omega
  simp only [logP] at hS hR ⊢
  refine EV_post rfl Tryz.func35 rfl (by simp [Tryz.ntmps35]) (by kernel_rfl) (by kernel_rfl) ?_
  simp (maxSteps := 4000000) [List.getElem?_cons_zero, List.getElem?_cons_succ, hS, hc, hR, Tryz.results35]
end
/-- a byte turned is a byte -/
theorem xor_u8 (a b : UInt8) : ∃ c : UInt8, AV.int .u8 (bits .xor .u8 (a.toNat : Int) (b.toNat : Int)) = .u8 c := by
  have hw : ∀ n : Int, 0 ≤ IntKind.u8.wrap n ∧ IntKind.u8.wrap n < 256 := fun n => by simp only [IntKind.wrap, IntKind.signed, IntKind.bits]; simp; omega
  have h : 0 ≤ bits .xor .u8 (a.toNat : Int) (b.toNat : Int) ∧ bits .xor .u8 (a.toNat : Int) (b.toNat : Int) < 256 := hw _
  obtain ⟨n, hn⟩ := Int.eq_ofNat_of_zero_le h.1
  rw [hn] at h ⊢
  refine ⟨UInt8.ofNat n, ?_⟩
  simp only [AV.u8, UInt8.toNat_ofNat']
  congr 1
  omega
/-- a box that holds 32 bytes -/
structure Cell (S : List (List AV)) (b : Nat) (x : List UInt8) : Prop where
  at' : S[b]? = some (x.map .u8)
  len : x.length = 32
theorem Cell.set {S : List (List AV)} {b c : Nat} {x y : List UInt8} (h : Cell S b x) (hy : y.length = 32) : ∃ z, Cell (S.set c (y.map .u8)) b z := by
  by_cases e : c = b
  · subst e
    have := (List.getElem?_eq_some_iff.1 h.at').1
    exact ⟨y, by rw [List.getElem?_set, if_pos rfl, if_pos this], hy⟩
  · exact ⟨x, by rw [List.getElem?_set, if_neg e]; exact h.at', h.len⟩
theorem cells_exist {S : List (List AV)} {a : Nat} (n : Nat) (h : ∀ k, k < n → ∃ r, Cell S (a + k) r) : ∃ P : List (List UInt8), P.length = n ∧ (∀ (k : Nat) x, P[k]? = some x → S[a + k]? = some (x.map .u8)) ∧ ∀ x ∈ P, x.length = 32 := by
  induction n with
  | zero => exact ⟨[], rfl, by simp, by simp⟩
  | succ n ih =>
    obtain ⟨P, h1, h2, h3⟩ := ih fun k hk => h k (by omega)
    obtain ⟨r, hr⟩ := h n (by omega)
    refine ⟨P ++ [r], by simp [h1], fun k x hx => ?_, fun x hx => ?_⟩
    · by_cases hk : k < P.length
      · rw [List.getElem?_append_left hk] at hx; exact h2 k x hx
      · rw [List.getElem?_append_right (by omega)] at hx
        obtain ⟨j, hj⟩ : ∃ j, k - P.length = j := ⟨_, rfl⟩
        rw [hj] at hx
        cases j with
        | zero => simp at hx; subst hx; rw [show k = n by omega]; exact hr.at'
        | succ j => simp at hx
    · rcases List.mem_append.1 hx with hx | hx
      · exact h3 x hx
      · simp at hx; subst hx; exact hr.len
/-- where things stand -/
structure Pos where
  bi : Nat
  bm : Nat
  bn : Nat
  br : Nat
  bo : Nat
  bp : Nat
  bq : Nat
  bl : Nat
  rb : Nat
  lb : Nat
  ap : Nat
  aq : Nat
def Pos.data (x : Pos) (np nq b : Nat) : Prop := b = x.rb ∨ b = x.lb ∨ (∃ k, k < np ∧ b = x.ap + k) ∨ ∃ k, k < nq ∧ b = x.aq + k
structure PosOk (s : List (List AV)) (x : Pos) (np nq : Nat) : Prop where
  data : ∀ b, x.data np nq b → s.length ≤ b ∧ b ≠ x.bi ∧ b ≠ x.bm ∧ b ≠ x.bn ∧ b ≠ x.br ∧ b ≠ x.bo ∧ b ≠ x.bp ∧ b ≠ x.bq ∧ b ≠ x.bl
  own : s.length ≤ x.bp ∧ x.bp ≠ x.bi ∧ x.bp ≠ x.bn ∧ x.bp ≠ x.bl ∧ x.bp ≠ x.br
structure Good (s : List (List AV)) (x : Pos) (i m n np nq : Nat) (old : List UInt8) (S : List (List AV)) : Prop where
  ci : S[x.bi]? = some [.int .i64 i]
  cm : S[x.bm]? = some [.int .i64 m]
  cn : S[x.bn]? = some [.int .i64 n]
  cr : S[x.br]? = some [.ms 5 1 x.rb 0 32]
  co : S[x.bo]? = some [.sl .sh (old.map .u8)]
  cp : S[x.bp]? = some [.sl (.ex 35 1) (msRow 5 x.ap np 32)]
  cq : S[x.bq]? = some [.sl .sh (msRow 5 x.aq nq 32)]
  cl : S[x.bl]? = some [.ms 5 1 x.lb 0 32]
  cells : ∀ b, x.data np nq b → ∃ r, Cell S b r
  low : ∀ b, b < s.length → S[b]? = s[b]?
section
variable {s S : List (List AV)} {x : Pos} {i m n np nq : Nat} {old : List UInt8}
theorem Good.turn (h : Good s x i m n np nq old S) (hp : PosOk s x np nq) {b : Nat} (hb : x.data np nq b) {r : List UInt8} (hr : r.length = 32) : Good s x i m n np nq old (S.set b (r.map .u8)) := by
  obtain ⟨d0, d1, d2, d3, d4, d5, d6, d7, d8⟩ := hp.data b hb
  refine ⟨?_, ?_, ?_, ?_, ?_, ?_, ?_, ?_, fun c hc => ?_, fun c hc => ?_⟩
  · rw [List.getElem?_set, if_neg d1]; exact h.ci
  · rw [List.getElem?_set, if_neg d2]; exact h.cm
  · rw [List.getElem?_set, if_neg d3]; exact h.cn
  · rw [List.getElem?_set, if_neg d4]; exact h.cr
  · rw [List.getElem?_set, if_neg d5]; exact h.co
  · rw [List.getElem?_set, if_neg d6]; exact h.cp
  · rw [List.getElem?_set, if_neg d7]; exact h.cq
  · rw [List.getElem?_set, if_neg d8]; exact h.cl
  · obtain ⟨r0, hr0⟩ := h.cells c hc; exact hr0.set hr
  · rw [List.getElem?_set, if_neg (by omega)]; exact h.low c hc
def pI (b : Nat) : AV := .gp b 0 (some (3, 1))
def pB (b : Nat) : AV := .gp b 0 (some (35, 1))
def pL (b : Nat) : AV := .gp b 0 (some (22, 1))
theorem checkRecM_eq (h : Good s x i m n np nq old S) (hnp : np ≤ 2 ^ 30) : ∃ e : Int, ev (900000 + 38) [.sl .sh (msRow 5 x.ap np 32), .int .i64 i, .int .i64 n, .ms 5 1 x.lb 0 32, .ms 5 1 x.rb 0 32] S = some (.int .i64 e, S) ∧
    ev (900000 + 41) [.sl .sh (msRow 5 x.ap np 32), .int .i64 i, .int .i64 n, .ms 5 1 x.lb 0 32, .ms 5 1 x.rb 0 32] S = some (.int .i64 e, S) := by
  obtain ⟨r, hr⟩ := h.cells x.rb (.inl rfl)
  obtain ⟨l, hl⟩ := h.cells x.lb (.inr (.inl rfl))
  obtain ⟨P, h1, h2, h3⟩ := cells_exist np fun k hk => h.cells (x.ap + k) (.inr (.inr (.inl ⟨k, hk, rfl⟩)))
  subst h1
  have hm : mapO (flatV S 8) [.sl .sh (msRow 5 x.ap P.length 32), .int .i64 i, .int .i64 n, .ms 5 1 x.lb 0 32, .ms 5 1 x.rb 0 32] = some [.sl .sh (hs P), .int .i64 i, .int .i64 n, .sl .sh (l.map .u8), .sl .sh (r.map .u8)] := by
    have e1 : ∀ k : Int, flatV S 8 (.int .i64 k) = some (.int .i64 k) := fun k => rfl
    simp only [mapO, flatV_row 5 h2 h3, e1, flatV_ms 6 hl.at' hl.len, flatV_ms 6 hr.at' hr.len, bnd]
  have b1 : ∀ y ∈ P, y.length ≤ 2 ^ 27 := fun y hy => by rw [h3 y hy]; omega
  have b2 : l.length ≤ 2 ^ 27 := by rw [hl.len]; omega
  have b3 : r.length ≤ 2 ^ 27 := by rw [hr.len]; omega
  exact ⟨_, EV_brw rfl hm (CheckRecord_eq P i n l r hnp b1 b2 b3 []) rfl, EV_brw rfl hm (rCheckRecord_eq P i n l r hnp b1 b2 b3 []) rfl⟩
theorem checkTreeM_eq (h : Good s x i m n np nq old S) (hnq : nq ≤ 2 ^ 30) (ho : old.length ≤ 2 ^ 27) : ∃ e : Int, ev (900000 + 39) [.sl .sh (msRow 5 x.aq nq 32), .int .i64 m, .int .i64 n, .sl .sh (old.map .u8), .ms 5 1 x.rb 0 32] S = some (.int .i64 e, S) ∧
    ev (900000 + 43) [.sl .sh (msRow 5 x.aq nq 32), .int .i64 m, .int .i64 n, .sl .sh (old.map .u8), .ms 5 1 x.rb 0 32] S = some (.int .i64 e, S) := by
  obtain ⟨r, hr⟩ := h.cells x.rb (.inl rfl)
  obtain ⟨P, h1, h2, h3⟩ := cells_exist nq fun k hk => h.cells (x.aq + k) (.inr (.inr (.inr ⟨k, hk, rfl⟩)))
  subst h1
  have hm : mapO (flatV S 8) [.sl .sh (msRow 5 x.aq P.length 32), .int .i64 m, .int .i64 n, .sl .sh (old.map .u8), .ms 5 1 x.rb 0 32] = some [.sl .sh (hs P), .int .i64 m, .int .i64 n, .sl .sh (old.map .u8), .sl .sh (r.map .u8)] := by
    have e1 : ∀ k : Int, flatV S 8 (.int .i64 k) = some (.int .i64 k) := fun k => rfl
    simp only [mapO, flatV_row 5 h2 h3, e1, flatV_bytes S 6, flatV_ms 6 hr.at' hr.len, bnd]
  have b1 : ∀ y ∈ P, y.length ≤ 2 ^ 27 := fun y hy => by rw [h3 y hy]; omega
  have b3 : r.length ≤ 2 ^ 27 := by rw [hr.len]; omega
  exact ⟨_, EV_brw rfl hm (CheckTree_eq P m n old r hnq b1 ho b3 []) rfl, EV_brw rfl hm (rCheckTree_eq P m n old r hnq b1 ho b3 []) rfl⟩
theorem record_eq (h : Good s x i m n np nq old S) (hnp : np ≤ 2 ^ 30) : ev 40 [pL x.bp, pI x.bi, pI x.bn, pB x.bl, pB x.br] S = some (.bool true, S) := by
  obtain ⟨e, h1, h2⟩ := checkRecM_eq h hnp
  have hNum := Num_eq e
  have c1 := h.cp
  have c2 := h.ci
  have c3 := h.cn
  have c4 := h.cl
  have c5 := h.cr
  simp only [pI, pB, pL]
  refine EV_post rfl Tryz.func40 rfl (by simp [Tryz.ntmps40]) (by kernel_rfl) (by kernel_rfl) ?_
  generalize msRow 5 x.ap np 32 = R at *
  by_cases he : e = 0
  · subst he
    simp (maxSteps := 4000000) [List.getElem?_cons_zero, List.getElem?_cons_succ, -getElem?_pos, c1, c2, c3, c4, c5, h1, h2, hNum, Tryz.results40]
  · simp (maxSteps := 4000000) [List.getElem?_cons_zero, List.getElem?_cons_succ, -getElem?_pos, c1, c2, c3, c4, c5, h1, h2, hNum, he, Tryz.results40]
theorem tree_eq (h : Good s x i m n np nq old S) (hnq : nq ≤ 2 ^ 30) (ho : old.length ≤ 2 ^ 27) : ev 42 [pL x.bq, pI x.bm, pI x.bn, pB x.bo, pB x.br] S = some (.bool true, S) := by
  obtain ⟨e, h1, h2⟩ := checkTreeM_eq h hnq ho
  have hNum := Num_eq e
  have c1 := h.cq
  have c2 := h.cm
  have c3 := h.cn
  have c4 := h.co
  have c5 := h.cr
  simp only [pI, pB, pL]
  refine EV_post rfl Tryz.func42 rfl (by simp [Tryz.ntmps42]) (by kernel_rfl) (by kernel_rfl) ?_
  generalize msRow 5 x.aq nq 32 = R at *
  by_cases he : e = 0
  · subst he
    simp (maxSteps := 4000000) [List.getElem?_cons_zero, List.getElem?_cons_succ, -getElem?_pos, c1, c2, c3, c4, c5, h1, h2, hNum, Tryz.results42]
  · simp (maxSteps := 4000000) [List.getElem?_cons_zero, List.getElem?_cons_succ, -getElem?_pos, c1, c2, c3, c4, c5, h1, h2, hNum, he, Tryz.results42]
end
end Go.Proofs.Tryz.Ai
end
section
/- The statement that turns bits: all that it turns stays a log's proof, or the document's. -/
namespace Go.Proofs.Tryz.Ai
open Go Go.AI Go.Proofs
set_option maxHeartbeats 4000000
set_option linter.unusedVariables false

section
variable {s S : List (List AV)} {x : Pos} {i m n np nq : Nat} {old : List UInt8}
theorem Good.turnAt (h : Good s x i m n np nq old S) (hp : PosOk s x np nq) {b : Nat} (hb : x.data np nq b) {k : Nat} (hk : k < 32) (y : UInt8) :
    ∃ C S', S[b]? = some C ∧ (∃ a : UInt8, C[k]? = some (.int .u8 (a.toNat : Int)) ∧ S.set b (List.take k C ++ .int .u8 (bits .xor .u8 (a.toNat : Int) (y.toNat : Int)) :: List.drop (k + 1) C) = S') ∧ k + 1 ≤ C.length ∧ Good s x i m n np nq old S' := by
  obtain ⟨r, hr⟩ := h.cells b hb
  have hl := hr.len
  obtain ⟨a, ha⟩ : ∃ a, r[k]? = some a := ⟨_, List.getElem?_eq_getElem (by omega)⟩
  obtain ⟨c, hc⟩ := xor_u8 a y
  refine ⟨r.map .u8, _, hr.at', ⟨a, by rw [List.getElem?_map, ha]; rfl, rfl⟩, by simp; omega, ?_⟩
  rw [hc]
  have e : List.take k (r.map AV.u8) ++ AV.u8 c :: List.drop (k + 1) (r.map AV.u8) = (r.take k ++ c :: r.drop (k + 1)).map AV.u8 := by simp
  rw [e]
  exact h.turn hp hb (by simp; omega)
/-- one hash too many -/
theorem checkMore_eq (h0 : Good s x i m n np nq old S) (hp : PosOk s x np nq) (hnp : np ≤ 2 ^ 20) (hs' : np = stepsN i n) (hin : i < n ∧ n ≤ 1048576) : ev (900000 + 38) [.sl .sh (msRow 5 x.ap np 32 ++ [.ms 5 1 x.lb 0 32]), .int .i64 i, .int .i64 n, .ms 5 1 x.lb 0 32, .ms 5 1 x.rb 0 32] (S.set x.bp [.sl .sh (msRow 5 x.ap np 32)]) = some (.int .i64 19, S.set x.bp [.sl .sh (msRow 5 x.ap np 32)]) := by
  have hcells : ∀ b, x.data np nq b → ∃ r, Cell (S.set x.bp [.sl .sh (msRow 5 x.ap np 32)]) b r := fun b hb => by
    obtain ⟨r, hr⟩ := h0.cells b hb
    have := hp.data b hb
    exact ⟨r, by rw [List.getElem?_set, if_neg (by omega)]; exact hr.at', hr.len⟩
  generalize S.set x.bp [.sl .sh (msRow 5 x.ap np 32)] = S at *
  obtain ⟨r, hr⟩ := hcells x.rb (.inl rfl)
  obtain ⟨l, hl⟩ := hcells x.lb (.inr (.inl rfl))
  obtain ⟨P, h1, h2, h3⟩ := cells_exist np fun k hk => hcells (x.ap + k) (.inr (.inr (.inl ⟨k, hk, rfl⟩)))
  subst h1
  have e1 : ∀ k : Int, flatV S 8 (.int .i64 k) = some (.int .i64 k) := fun k => rfl
  have hrow := flatV_row (s := S) (ty := 5) (a := x.ap) (k := 32) (l := P) 5 h2 h3
  have hrow2 : flatV S 8 (.sl .sh (msRow 5 x.ap P.length 32 ++ [.ms 5 1 x.lb 0 32])) = some (.sl .sh (hs (P ++ [l]))) := by
    simp only [flatV] at hrow ⊢
    obtain ⟨ys, hys, e⟩ := bnd_eq hrow
    injection e with e
    injection e with _ e
    have happ : ∀ (f : AV → Option AV) (a b a' b' : List AV), mapO f a = some a' → mapO f b = some b' → mapO f (a ++ b) = some (a' ++ b') := by
      intro f a
      induction a with
      | nil => intro b a' b' h1 h2; injection h1 with h1; subst h1; simpa using h2
      | cons z a ih =>
        intro b a' b' h1 h2
        simp only [mapO, List.cons_append] at h1 ⊢
        obtain ⟨y, hy, h1⟩ := bnd_eq h1
        obtain ⟨q, hq, h1⟩ := bnd_eq h1
        injection h1 with h1; subst h1
        rw [hy, bnd, ih b q b' hq h2]; rfl
    have hone : mapO (flatV S 7) [.ms 5 1 x.lb 0 32] = some [.sl .sh (l.map .u8)] := by
      simp only [mapO, flatV_ms 5 hl.at' hl.len, bnd]
    rw [happ _ _ _ _ _ hys hone, bnd, e]
    simp [hs]
  have hm : mapO (flatV S 8) [.sl .sh (msRow 5 x.ap P.length 32 ++ [.ms 5 1 x.lb 0 32]), .int .i64 i, .int .i64 n, .ms 5 1 x.lb 0 32, .ms 5 1 x.rb 0 32] = some [.sl .sh (hs (P ++ [l])), .int .i64 i, .int .i64 n, .sl .sh (l.map .u8), .sl .sh (r.map .u8)] := by
    simp only [mapO, hrow2, e1, flatV_ms 6 hl.at' hl.len, flatV_ms 6 hr.at' hr.len, bnd]
  have b1 : ∀ y ∈ P ++ [l], y.length ≤ 2 ^ 27 := fun y hy => by
    rcases List.mem_append.1 hy with hy | hy
    · rw [h3 y hy]; omega
    · simp at hy; subst hy; rw [hl.len]; omega
  have b2 : l.length ≤ 2 ^ 27 := by rw [hl.len]; omega
  have b3 : r.length ≤ 2 ^ 27 := by rw [hr.len]; omega
  have hv : recB (P ++ [l]) i n l r = 19 := by
    unfold recB
    rw [if_neg (by omega), if_neg]
    rintro ⟨h, _⟩
    simp at h
    omega
  have := EV_brw (T := T) (H := H) (P := Tryz.prog) rfl hm (CheckRecord_eq (P ++ [l]) i n l r (by simp; omega) b1 b2 b3 []) rfl
  rw [hv] at this
  exact this
end
theorem get_app {s j : List (List AV)} {b : Nat} {v : List AV} (h : s[b]? = some v) : (s ++ j)[b]? = some v := by
  rw [List.getElem?_append_left (List.getElem?_eq_some_iff.1 h).1]; exact h
theorem boxesB_get' {s : List (List AV)} {Z : List (List UInt8)} : ∀ (i : Nat) x, Z[i]? = some x → (s ++ boxesB Z)[s.length + i]? = some (x.map .u8) := fun i x h => by
  have hi := (List.getElem?_eq_some_iff.1 h).1
  rw [List.getElem?_append_right (by omega), show s.length + i - s.length = i by omega, boxesB, List.getElem?_map, h]; rfl
/-- all boxes are made -/
structure Ready (s : List (List AV)) (p q : Nat) (LB : List (List UInt8)) (i m n : Nat) (x : Pos) (np nq : Nat) (old : List UInt8) (S1 A2 A3 A4 : List (List AV)) : Prop where
  root : ev (100000 + 35) [.gp p 0 (some (80, 1)), .int .i64 n] (s ++ [[.int .i64 i], [.int .i64 m], [.int .i64 n]]) = some (.tup [.ms 5 1 x.rb 0 32, .int .i64 0], S1)
  old' : ev 35 [.gp p 0 (some (80, 1)), .int .i64 m] (S1 ++ [[.ms 5 1 x.rb 0 32]]) = some (.tup [.sl .sh (old.map .u8), .int .i64 0], S1 ++ [[.ms 5 1 x.rb 0 32]])
  prove : ev (200000 + 36) [.gp p 0 (some (80, 1)), .int .i64 i, .int .i64 n] (S1 ++ [[.ms 5 1 x.rb 0 32], [.sl .sh (old.map .u8)]]) = some (.tup [.sl (.ex 35 1) (msRow 5 x.ap np 32), .int .i64 0], A2)
  proveT : ev (100000 + 37) [.gp p 0 (some (80, 1)), .int .i64 m, .int .i64 n] (A2 ++ [[.sl (.ex 35 1) (msRow 5 x.ap np 32)]]) = some (.tup [.sl .sh (msRow 5 x.aq nq 32), .int .i64 0], A3)
  hash : ev (100000 + 11) [.gp p 0 (some (80, 1)), .int .i64 0, .int .i64 i] (A3 ++ [[.sl .sh (msRow 5 x.aq nq 32)]]) = some (.tup [.ms 5 1 x.lb 0 32, .int .i64 0], A4)
  bi : x.bi = s.length
  bm : x.bm = s.length + 1
  bn : x.bn = s.length + 2
  br : x.br = S1.length
  bo : x.bo = S1.length + 1
  bp : x.bp = A2.length
  bq : x.bq = A3.length
  bl : x.bl = A4.length
  g1 : (S1 ++ [[.ms 5 1 x.rb 0 32]])[x.bm]? = some [.int .i64 m]
  g2 : (S1 ++ [[.ms 5 1 x.rb 0 32], [.sl .sh (old.map .u8)]])[x.bi]? = some [.int .i64 i]
  g3 : (S1 ++ [[.ms 5 1 x.rb 0 32], [.sl .sh (old.map .u8)]])[x.bn]? = some [.int .i64 n]
  g4 : (A2 ++ [[.sl (.ex 35 1) (msRow 5 x.ap np 32)]])[x.bm]? = some [.int .i64 m]
  g5 : (A2 ++ [[.sl (.ex 35 1) (msRow 5 x.ap np 32)]])[x.bn]? = some [.int .i64 n]
  g6 : (A3 ++ [[.sl .sh (msRow 5 x.aq nq 32)]])[x.bi]? = some [.int .i64 i]
  pos : PosOk s x np nq
  good : Good s x i m n np nq old (A4 ++ [[.ms 5 1 x.lb 0 32]])
  rec0 : ev (900000 + 38) [.sl .sh (msRow 5 x.ap np 32), .int .i64 i, .int .i64 n, .ms 5 1 x.lb 0 32, .ms 5 1 x.rb 0 32] (A4 ++ [[.ms 5 1 x.lb 0 32]]) = some (.int .i64 0, A4 ++ [[.ms 5 1 x.lb 0 32]])
  tree0 : ev (900000 + 39) [.sl .sh (msRow 5 x.aq nq 32), .int .i64 m, .int .i64 n, .sl .sh (old.map .u8), .ms 5 1 x.rb 0 32] (A4 ++ [[.ms 5 1 x.lb 0 32]]) = some (.int .i64 0, A4 ++ [[.ms 5 1 x.lb 0 32]])
  steps : np = stepsN i n
  np20 : np ≤ 2 ^ 20
  nq20 : nq ≤ 2 ^ 21
  old32 : old.length = 32
theorem ready {s : List (List AV)} {p q : Nat} {LB : List (List UInt8)} (h : LogOf s p q LB) (i m n : Nat) (hi : i < n) (hm : m ≤ n) (hn : n ≤ LB.length) : ∃ x np nq old S1 A2 A3 A4, Ready s p q LB i m n x np nq old S1 A2 A3 A4 := by
  have hlen := h.len
  have h0 := h.app [[.int .i64 i], [.int .i64 m], [.int .i64 n]]
  have hR := h0.rootM n (by omega) hn
  obtain ⟨root, hroot⟩ : ∃ root, spanT nodeB (leafF LB) 0 n = root := ⟨_, rfl⟩
  have hroot32 : root.length = 32 := by rw [← hroot]; exact spanT_len32 _ _ _ (by omega) fun j hj => leafF_len32 LB h.small _ (by omega)
  rw [hroot] at hR
  obtain ⟨S1, hS1⟩ : ∃ S1, s ++ [[AV.int .i64 i], [AV.int .i64 m], [AV.int .i64 n]] ++ [root.map .u8] = S1 := ⟨_, rfl⟩
  rw [hS1] at hR
  have l0 : (s ++ [[AV.int .i64 i], [AV.int .i64 m], [AV.int .i64 n]]).length = s.length + 3 := by simp
  rw [l0] at hR
  have l1 : S1.length = s.length + 4 := by rw [← hS1]; simp
  have h1 : LogOf S1 p q LB := by rw [← hS1]; exact h0.app _
  have h1' := h1.app [[.ms 5 1 (s.length + 3) 0 32]]
  have hO := h1'.root m
  have e1 : lrootQ LB m = rootQ (leafF LB) m := by unfold lrootQ; rw [if_neg (by omega)]
  rw [e1] at hO
  obtain ⟨old, hold⟩ : ∃ old, (rootQ (leafF LB) m).1 = old := ⟨_, rfl⟩
  have hold32 : old.length = 32 := by rw [← hold]; exact (root32 h.small (n := m) (by omega) (by omega)).1
  have hz : (rootQ (leafF LB) m).2 = 0 := (root32 h.small (n := m) (by omega) (by omega)).2
  rw [hold, hz] at hO
  have h2 := h1.app [[.ms 5 1 (s.length + 3) 0 32], [.sl .sh (old.map .u8)]]
  have hP := h2.proveMR i n
  have e2 : lproveQ LB i n = proveQ (leafF LB) i n := by unfold lproveQ; rw [if_neg (by omega)]
  obtain ⟨s1, s2⟩ := rec_sound h.small hlen i n hi hn
  have epq : (proveQ (leafF LB) i n).1 = (pathN i 0 n).map (spanX (leafF LB)) := by unfold proveQ; rw [if_pos (by omega)]; rfl
  have p32 : ∀ y ∈ (proveQ (leafF LB) i n).1, y.length = 32 := by rw [epq]; exact spans32 h.small (fun x hx => pathN_ok n i 0 _ (algn_zero n) (by omega) x hx)
  have pst : (proveQ (leafF LB) i n).1.length = stepsN i n := by rw [epq]; simp [stepsN]
  have ple := pathN_le n i 0
  obtain ⟨PP, hPP⟩ : ∃ PP, (proveQ (leafF LB) i n).1 = PP := ⟨_, rfl⟩
  rw [e2, s2, hPP] at hP
  rw [hPP] at s1 p32 pst
  have l2 : (S1 ++ [[AV.ms 5 1 (s.length + 3) 0 32], [.sl .sh (old.map .u8)]]).length = s.length + 6 := by simp; omega
  rw [l2] at hP
  have h3 := h2.app (boxesB PP)
  obtain ⟨A2, hA2⟩ : ∃ A2, S1 ++ [[AV.ms 5 1 (s.length + 3) 0 32], [.sl .sh (old.map .u8)]] ++ boxesB PP = A2 := ⟨_, rfl⟩
  rw [hA2] at hP h3
  have l3 : A2.length = s.length + 6 + PP.length := by rw [← hA2, List.length_append, l2, boxesB_len]
  have h3' := h3.app [[.sl (.ex 35 1) (msRow 5 (s.length + 6) PP.length 32)]]
  have hT := h3'.proveTM m n
  have e3 : lproveTQ LB m n = proveTQ (leafF LB) m n := by unfold lproveTQ; rw [if_neg (by omega)]
  obtain ⟨t1, t2⟩ := tree_sound h.small hlen m n hm hn
  have q32 : ∀ y ∈ (proveTQ (leafF LB) m n).1, y.length = 32 := by
    unfold proveTQ; split
    · split
      · simp
      · exact spans32 h.small (fun x hx => subN_ok _ _ 0 _ true (by omega) (algn_zero _) (by omega) x hx)
    · simp
  have qle := (proveTQ_len (leafF LB) (fun i => by have := h.leaf i; omega) m n (by omega)).1
  have qle2 : (proveTQ (leafF LB) m n).1.length ≤ n + 1 := by
    unfold proveTQ; split
    · split
      · simp
      · have := subN_le (n : Int).toNat (m : Int).toNat 0 true; simpa using this
    · simp
  obtain ⟨QQ, hQQ⟩ : ∃ QQ, (proveTQ (leafF LB) m n).1 = QQ := ⟨_, rfl⟩
  rw [e3, t2, hQQ] at hT
  rw [hQQ, hold] at t1
  rw [hQQ] at q32 qle2
  have qle3 : QQ.length ≤ 1048577 := by
    have : n ≤ 1048576 := by omega
    omega
  have ple3 : PP.length ≤ 1048576 := by
    have : stepsN i n ≤ n := ple
    omega
  have l4 : (A2 ++ [[AV.sl (.ex 35 1) (msRow 5 (s.length + 6) PP.length 32)]]).length = s.length + 7 + PP.length := by simp; omega
  rw [l4] at hT
  have h4 := h3'.app (boxesB QQ)
  obtain ⟨A3, hA3⟩ : ∃ A3, A2 ++ [[AV.sl (.ex 35 1) (msRow 5 (s.length + 6) PP.length 32)]] ++ boxesB QQ = A3 := ⟨_, rfl⟩
  rw [hA3] at hT h4
  have l5 : A3.length = s.length + 7 + PP.length + QQ.length := by rw [← hA3, List.length_append, l4, boxesB_len]
  have h4' := h4.app [[.sl .sh (msRow 5 (s.length + 7 + PP.length) QQ.length 32)]]
  have hH := h4'.hashM i (by omega)
  have l6 : (A3 ++ [[AV.sl .sh (msRow 5 (s.length + 7 + PP.length) QQ.length 32)]]).length = s.length + 8 + PP.length + QQ.length := by simp; omega
  rw [l6] at hH
  have lf32 := leafF_len32 LB h.small i (by omega)
  obtain ⟨leaf, hleaf⟩ : ∃ leaf, leafF LB i = leaf := ⟨_, rfl⟩
  rw [hleaf] at hH lf32 s1
  have erq : (rootQ (leafF LB) n).1 = root := by unfold rootQ; rw [if_neg (by omega), if_neg (by omega), ← hroot]; rfl
  rw [erq] at s1 t1
  obtain ⟨A4, hA4⟩ : ∃ A4, A3 ++ [[AV.sl .sh (msRow 5 (s.length + 7 + PP.length) QQ.length 32)]] ++ [leaf.map .u8] = A4 := ⟨_, rfl⟩
  rw [hA4] at hH
  have l7 : A4.length = s.length + 9 + PP.length + QQ.length := by rw [← hA4, List.length_append, l6]; simp; omega
  -- what stands where
  have k0 : ∀ b v, (s ++ [[AV.int .i64 i], [.int .i64 m], [.int .i64 n]])[b]? = some v → S1[b]? = some v := fun b v hb => by rw [← hS1]; exact get_app hb
  have k1 : ∀ b v, S1[b]? = some v → A2[b]? = some v := fun b v hb => by rw [← hA2]; exact get_app (get_app hb)
  have k2 : ∀ b v, A2[b]? = some v → A3[b]? = some v := fun b v hb => by rw [← hA3]; exact get_app (get_app hb)
  have k3 : ∀ b v, A3[b]? = some v → A4[b]? = some v := fun b v hb => by rw [← hA4]; exact get_app (get_app hb)
  have ci : S1[s.length]? = some [.int .i64 i] := k0 _ _ (by simp)
  have cm : S1[s.length + 1]? = some [.int .i64 m] := k0 _ _ (by simp)
  have cn : S1[s.length + 2]? = some [.int .i64 n] := k0 _ _ (by simp)
  have cr : S1[s.length + 3]? = some (root.map .u8) := by rw [← hS1, List.getElem?_append_right (by rw [l0]; omega), l0]; simp
  have cR : A2[s.length + 4]? = some [.ms 5 1 (s.length + 3) 0 32] := by rw [← hA2]; refine get_app ?_; rw [List.getElem?_append_right (by omega), l1]; simp
  have cO : A2[s.length + 5]? = some [.sl .sh (old.map .u8)] := by rw [← hA2]; refine get_app ?_; rw [List.getElem?_append_right (by omega), l1, show s.length + 5 - (s.length + 4) = 1 by omega]; simp
  have cPk : ∀ (k : Nat) y, PP[k]? = some y → A2[s.length + 6 + k]? = some (y.map .u8) := fun k y hy => by
    have := boxesB_get' (s := S1 ++ [[AV.ms 5 1 (s.length + 3) 0 32], [.sl .sh (old.map .u8)]]) k y hy
    rwa [l2, hA2] at this
  have cP : A3[s.length + 6 + PP.length]? = some [.sl (.ex 35 1) (msRow 5 (s.length + 6) PP.length 32)] := by rw [← hA3]; refine get_app ?_; rw [List.getElem?_append_right (by omega), l3]; simp
  have cQk : ∀ (k : Nat) y, QQ[k]? = some y → A3[s.length + 7 + PP.length + k]? = some (y.map .u8) := fun k y hy => by
    have := boxesB_get' (s := A2 ++ [[AV.sl (.ex 35 1) (msRow 5 (s.length + 6) PP.length 32)]]) k y hy
    rwa [l4, hA3] at this
  have cQ : A4[s.length + 7 + PP.length + QQ.length]? = some [.sl .sh (msRow 5 (s.length + 7 + PP.length) QQ.length 32)] := by rw [← hA4]; refine get_app ?_; rw [List.getElem?_append_right (by omega), l5]; simp
  have cl : A4[s.length + 8 + PP.length + QQ.length]? = some (leaf.map .u8) := by rw [← hA4, List.getElem?_append_right (by rw [l6]; omega), l6]; simp
  obtain ⟨F, hF⟩ : ∃ F, A4 ++ [[AV.ms 5 1 (s.length + 8 + PP.length + QQ.length) 0 32]] = F := ⟨_, rfl⟩
  have k4 : ∀ b v, A4[b]? = some v → F[b]? = some v := fun b v hb => by rw [← hF]; exact get_app hb
  have cL : F[s.length + 9 + PP.length + QQ.length]? = some [.ms 5 1 (s.length + 8 + PP.length + QQ.length) 0 32] := by rw [← hF, List.getElem?_append_right (by omega), l7]; simp
  have hlow : ∀ b, b < s.length → F[b]? = s[b]? := fun b hb => by
    have e : s[b]? = some s[b] := List.getElem?_eq_getElem hb
    rw [e]
    exact k4 _ _ (k3 _ _ (k2 _ _ (k1 _ _ (k0 _ _ (get_app e)))))
  have mrec : mapO (flatV F 8) [.sl .sh (msRow 5 (s.length + 6) PP.length 32), .int .i64 i, .int .i64 n, .ms 5 1 (s.length + 8 + PP.length + QQ.length) 0 32, .ms 5 1 (s.length + 3) 0 32] = some [.sl .sh (hs PP), .int .i64 i, .int .i64 n, .sl .sh (leaf.map .u8), .sl .sh (root.map .u8)] := by
    have f1 : ∀ k : Int, flatV F 8 (.int .i64 k) = some (.int .i64 k) := fun k => rfl
    simp only [mapO, flatV_row 5 (fun k y hy => k4 _ _ (k3 _ _ (k2 _ _ (cPk k y hy)))) p32, f1, flatV_ms 6 (k4 _ _ cl) lf32, flatV_ms 6 (k4 _ _ (k3 _ _ (k2 _ _ (k1 _ _ cr)))) hroot32, bnd]
  have mtree : mapO (flatV F 8) [.sl .sh (msRow 5 (s.length + 7 + PP.length) QQ.length 32), .int .i64 m, .int .i64 n, .sl .sh (old.map .u8), .ms 5 1 (s.length + 3) 0 32] = some [.sl .sh (hs QQ), .int .i64 m, .int .i64 n, .sl .sh (old.map .u8), .sl .sh (root.map .u8)] := by
    have f1 : ∀ k : Int, flatV F 8 (.int .i64 k) = some (.int .i64 k) := fun k => rfl
    simp only [mapO, flatV_row 5 (fun k y hy => k4 _ _ (k3 _ _ (cQk k y hy))) q32, f1, flatV_bytes F 6, flatV_ms 6 (k4 _ _ (k3 _ _ (k2 _ _ (k1 _ _ cr)))) hroot32, bnd]
  have vrec := EV_brw (T := T) (H := H) (P := Tryz.prog) rfl mrec (CheckRecord_eq PP i n leaf root (by omega) (fun y hy => by rw [p32 y hy]; omega) (by omega) (by omega) []) rfl
  have vtree := EV_brw (T := T) (H := H) (P := Tryz.prog) rfl mtree (CheckTree_eq QQ m n old root (by omega) (fun y hy => by rw [q32 y hy]; omega) (by omega) (by omega) []) rfl
  rw [s1] at vrec
  rw [t1] at vtree
  simp only [logP] at hR hO hP hT hH
  have hpos : ∀ b, (⟨s.length, s.length + 1, s.length + 2, s.length + 4, s.length + 5, s.length + 6 + PP.length, s.length + 7 + PP.length + QQ.length, s.length + 9 + PP.length + QQ.length, s.length + 3, s.length + 8 + PP.length + QQ.length, s.length + 6, s.length + 7 + PP.length⟩ : Pos).data PP.length QQ.length b → (b = s.length + 3 ∨ b = s.length + 8 + PP.length + QQ.length ∨ (s.length + 6 ≤ b ∧ b < s.length + 6 + PP.length) ∨ (s.length + 7 + PP.length ≤ b ∧ b < s.length + 7 + PP.length + QQ.length)) := by
    rintro b (h | h | ⟨k, hk, h⟩ | ⟨k, hk, h⟩) <;> simp only at h <;> omega
  refine ⟨⟨s.length, s.length + 1, s.length + 2, s.length + 4, s.length + 5, s.length + 6 + PP.length, s.length + 7 + PP.length + QQ.length, s.length + 9 + PP.length + QQ.length, s.length + 3, s.length + 8 + PP.length + QQ.length, s.length + 6, s.length + 7 + PP.length⟩, PP.length, QQ.length, old, S1, A2, A3, A4,
    ⟨hR, hO, hP, hT, hH, rfl, rfl, rfl, l1.symm, by simp only; omega, l3.symm, l5.symm, l7.symm, get_app cm, get_app ci, get_app cn, get_app (k1 _ _ cm), get_app (k1 _ _ cn), get_app (k2 _ _ (k1 _ _ ci)), ⟨fun b hb => ?_, by simp only; omega⟩, ?_, ?_, ?_, pst, by omega, by omega, hold32⟩⟩
  · have := hpos b hb
    simp only
    omega
  · rw [hF]
    refine ⟨k4 _ _ (k3 _ _ (k2 _ _ (k1 _ _ ci))), k4 _ _ (k3 _ _ (k2 _ _ (k1 _ _ cm))), k4 _ _ (k3 _ _ (k2 _ _ (k1 _ _ cn))), k4 _ _ (k3 _ _ (k2 _ _ cR)), k4 _ _ (k3 _ _ (k2 _ _ cO)), k4 _ _ (k3 _ _ cP), k4 _ _ cQ, cL, fun b hb => ?_, hlow⟩
    rcases hb with h | h | ⟨k, hk, h⟩ | ⟨k, hk, h⟩
    · exact ⟨root, by rw [h]; exact k4 _ _ (k3 _ _ (k2 _ _ (k1 _ _ cr))), hroot32⟩
    · exact ⟨leaf, by rw [h]; exact k4 _ _ cl, lf32⟩
    · obtain ⟨y, hy⟩ : ∃ y, PP[k]? = some y := ⟨_, List.getElem?_eq_getElem hk⟩
      exact ⟨y, by rw [h]; exact k4 _ _ (k3 _ _ (k2 _ _ (cPk k y hy))), p32 y (List.mem_of_getElem? hy)⟩
    · obtain ⟨y, hy⟩ : ∃ y, QQ[k]? = some y := ⟨_, List.getElem?_eq_getElem hk⟩
      exact ⟨y, by rw [h]; exact k4 _ _ (k3 _ _ (cQk k y hy)), q32 y (List.mem_of_getElem? hy)⟩
  · rw [hF]; exact vrec
  · rw [hF]; exact vtree
end Go.Proofs.Tryz.Ai
end
section
/- The statement that turns bits: its evaluation. -/
namespace Go.Proofs.Tryz.Ai
open Go Go.AI Go.Proofs
set_option maxHeartbeats 8000000
set_option maxRecDepth 4000
set_option linter.unusedVariables false

theorem mod256 (n : Int) : ∃ m : Nat, m < 256 ∧ (IntKind.i64.wrap (n.tmod 256 + 256)).tmod 256 = (m : Int) := by
  have h1 := Int.tmod_lt_of_pos n (b := 256) (by omega)
  have h2 : -256 < n.tmod 256 := by
    have := Int.tmod_lt_of_pos (-n) (b := 256) (by omega)
    rw [Int.neg_tmod] at this; omega
  rw [wrap64 (by omega), Int.tmod_eq_emod_of_nonneg (by omega)]
  exact ⟨((n.tmod 256 + 256) % 256).toNat, by omega, by omega⟩
theorem twice_u8 (y : UInt8) : ∃ z : UInt8, IntKind.u8.wrap (2 * (y.toNat : Int)) = (z.toNat : Int) := by
  have : IntKind.u8.wrap (2 * (y.toNat : Int)) = ((2 * y.toNat % 256 : Nat) : Int) := by
    simp only [IntKind.wrap, IntKind.signed, IntKind.bits]; simp
  refine ⟨UInt8.ofNat (2 * y.toNat % 256), ?_⟩
  rw [this]; simp
theorem proves_eq1 {s : List (List AV)} {p q : Nat} {LB : List (List UInt8)} (h : LogOf s p q LB) (i m n : Nat) (hi : i < n) (hm : m ≤ n) (hn : n ≤ LB.length) (bit : Int) (hm0 : ¬ m = 0) :
    ev 9 [logP p, .int .i64 i, .int .i64 m, .int .i64 n, .int .i64 bit] s = some (.bool true, s) := by
  have hlen := h.len
  obtain ⟨x, np, nq, old, S1, A2, A3, A4, R⟩ := ready h i m n hi hm hn
  obtain ⟨bi, bm, bn, br, bo, bp, bq, bl, rb, lb, ap, aq⟩ := x
  have c1 : bi = s.length := R.bi
  have c2 : bm = s.length + 1 := R.bm
  have c3 : bn = s.length + 2 := R.bn
  have c4 : br = S1.length := R.br
  have c5 : bo = S1.length + 1 := R.bo
  have c6 : bp = A2.length := R.bp
  have c7 : bq = A3.length := R.bq
  have c8 : bl = A4.length := R.bl
  subst c1 c2 c3 c4 c5 c6 c7 c8
  have r1 := R.root
  have r2 := R.old'
  have r3 := R.prove
  have r4 := R.proveT
  have r5 := R.hash
  have g1 := R.g1
  have g2 := R.g2
  have g3 := R.g3
  have g4 := R.g4
  have g5 := R.g5
  have g6 := R.g6
  have v1 := R.rec0
  have v2 := R.tree0
  have G := R.good
  have hpos := R.pos
  have hst := R.steps
  have hnp := R.np20
  have hnq := R.nq20
  have hold := R.old32
  clear R
  simp only at r1 r2 r3 r4 r5 g1 g2 g3 g4 g5 g6 v1 v2 G hpos
  obtain ⟨c, hc, hcm⟩ := mod256 bit
  have hc8 : ((c : Int).tmod 8) = ((c % 8 : Nat) : Int) := by rw [Int.tmod_eq_emod_of_nonneg (by omega)]; simp
  have hcd : ((c : Int).tdiv 8) = ((c / 8 : Nat) : Int) := by rw [Int.tdiv_eq_ediv_of_nonneg (by omega)]; simp
  obtain ⟨k, hk⟩ : ∃ k, c / 8 = k := ⟨_, rfl⟩
  have hk32 : k < 32 := by omega
  rw [hk] at hcd
  have wk : IntKind.i64.wrap (k : Int) = (k : Int) := wrap64 (by omega)
  have hNum0 : ∀ σ, ev 12 [.int .i64 0] σ = some (.int .i64 0, σ) := fun σ => Num_eq 0 σ
  have hNum19 : ∀ σ, ev 12 [.int .i64 19] σ = some (.int .i64 19, σ) := fun σ => Num_eq 19 σ
  have f1 := G.ci
  have f2 := G.cm
  have f3 := G.cn
  have f4 := G.cr
  have f5 := G.co
  have f6 := G.cp
  have f7 := G.cq
  have f8 := G.cl
  obtain ⟨F, hF⟩ : ∃ F, A4 ++ [[AV.ms 5 1 lb 0 32]] = F := ⟨_, rfl⟩
  rw [hF] at v1 v2 G f1 f2 f3 f4 f5 f6 f7 f8
  simp only at f1 f2 f3 f4 f5 f6 f7 f8
  simp only [logP]
  have hrl := msRow_len 5 ap np 32
  have hrl2 := msRow_len 5 aq nq 32
  have hrg : ∀ j, j < np → (msRow 5 ap np 32)[j]? = some (.ms 5 1 (ap + j) 0 32) := fun j hj => by simp [msRow, hj]
  have hrg2 : ∀ j, j < nq → (msRow 5 aq nq 32)[j]? = some (.ms 5 1 (aq + j) 0 32) := fun j hj => by simp [msRow, hj]
  have hmore := fun (S : List (List AV)) (GS : Good s ⟨s.length, s.length + 1, s.length + 2, S1.length, S1.length + 1, A2.length, A3.length, A4.length, rb, lb, ap, aq⟩ i m n np nq old S) => checkMore_eq GS hpos hnp hst ⟨hi, by omega⟩
  have hrec := fun (S : List (List AV)) (GS : Good s ⟨s.length, s.length + 1, s.length + 2, S1.length, S1.length + 1, A2.length, A3.length, A4.length, rb, lb, ap, aq⟩ i m n np nq old S) => record_eq GS (by omega)
  have htree := fun (S : List (List AV)) (GS : Good s ⟨s.length, s.length + 1, s.length + 2, S1.length, S1.length + 1, A2.length, A3.length, A4.length, rb, lb, ap, aq⟩ i m n np nq old S) => tree_eq GS (by omega) (by omega)
  simp only [pI, pB, pL] at hmore hrec htree
  have hturn := fun (S : List (List AV)) (GS : Good s ⟨s.length, s.length + 1, s.length + 2, S1.length, S1.length + 1, A2.length, A3.length, A4.length, rb, lb, ap, aq⟩ i m n np nq old S) (b : Nat) hb (y : UInt8) => GS.turnAt hpos (b := b) hb hk32 y
  have hall : allCells 1 (msRow 5 ap np 32) := fun y hy => by
    obtain ⟨z, _, rfl⟩ := List.mem_map.1 hy
    exact ⟨rfl, fun c hc => by simp [AV.cells] at hc; subst hc; rfl⟩
  have hmost : np + 1 ≤ most := by unfold most; omega
  generalize hM1 : msRow 5 ap np 32 = M1 at *
  generalize hM2 : msRow 5 aq nq 32 = M2 at *
  refine EV_post rfl Tryz.func9 rfl (by simp [Tryz.ntmps9]) (by kernel_rfl) (by kernel_rfl) ?_
  simp (maxSteps := 4000000) [List.getElem?_cons_zero, List.getElem?_cons_succ, -getElem?_pos, r1, r2, r3, r4, r5, g1, g2, g3, g4, g5, g6, hF, f1, f2, f3, f4, f5, f6, f7, f8, v1, v2, hNum0, hcm]
  refine Post_loop (I := fun z : Nat × UInt8 => ⟨[(4, .int .i64 c), (6, .gp s.length 0 (some (3, 1))), (7, .gp (s.length + 1) 0 (some (3, 1))), (8, .gp (s.length + 2) 0 (some (3, 1))), (11, .gp S1.length 0 (some (35, 1))), (13, .gp (S1.length + 1) 0 (some (35, 1))), (15, .gp A2.length 0 (some (22, 1))), (17, .gp A3.length 0 (some (22, 1))), (19, .gp A4.length 0 (some (35, 1))), (21, .int .u8 (z.2.toNat : Int)), (22, .int .i64 z.1)], [], F⟩)
    (Pr := fun z => z.1 ≤ c % 8) (μ := fun z => c % 8 - z.1) (a := (0, 1)) (by simp) (by simp) ?_
  rintro ⟨j, y⟩ hj
  simp only at hj ⊢
  obtain ⟨d, hd⟩ : ∃ d, c % 8 = d := ⟨_, rfl⟩
  rw [hd] at hc8 hj
  by_cases hjd : j < d
  · have w1 : IntKind.i64.wrap ((j : Int) + 1) = (j : Int) + 1 := wrap64 (by omega)
    obtain ⟨y', hy'⟩ := twice_u8 y
    simp (maxSteps := 4000000) [List.getElem?_cons_zero, List.getElem?_cons_succ, hc8, hjd, w1, hy', hd]
    exact ⟨j + 1, by omega, by omega, by simp⟩
  · obtain ⟨C1, F1, q1, ⟨a1, q2, q3⟩, q4, G1⟩ := hturn F G lb (.inr (.inl rfl)) y
    obtain ⟨C2, F2, p1, ⟨a2, p2, p3⟩, p4, G2⟩ := hturn F1 G1 lb (.inr (.inl rfl)) y
    obtain ⟨C3, F3, o1, ⟨a3, o2, o3⟩, o4, G3⟩ := hturn F2 G2 rb (.inl rfl) y
    obtain ⟨C4, F4, n1, ⟨a4, n2, n3⟩, n4, G4⟩ := hturn F3 G3 rb (.inl rfl) y
    have u1 := G1.cl
    have u2 := G2.cr
    have u3 := G3.cr
    have u4 := G3.cm
    have u5 := G1.cl
    simp only at u1 u2 u3 u4
    have k1 := hrec F1 G1
    have k2 := hrec F3 G3
    have k3 := htree F3 G3
    simp (maxSteps := 4000000) [List.getElem?_cons_zero, List.getElem?_cons_succ, -getElem?_pos, hc8, hjd, hcd, hk32, wk, f8, q1, q2, q3, q4, u1, p1, p2, p3, p4, u2, o1, o2, o3, o4, u3, n1, n2, n3, n4, u4, k1, k2, k3, hm0]
    refine Post_loop (I := fun z : Nat × List (List AV) => ⟨[(4, .int .i64 c), (6, .gp s.length 0 (some (3, 1))), (8, .gp (s.length + 2) 0 (some (3, 1))), (11, .gp S1.length 0 (some (35, 1))), (15, .gp A2.length 0 (some (22, 1))), (17, .gp A3.length 0 (some (22, 1))), (19, .gp A4.length 0 (some (35, 1))), (21, .int .u8 (y.toNat : Int)), (23, .fn 40 [.gp A2.length 0 (some (22, 1)), .gp s.length 0 (some (3, 1)), .gp (s.length + 2) 0 (some (3, 1)), .gp A4.length 0 (some (35, 1)), .gp S1.length 0 (some (35, 1))]), (24, .fn 42 [.gp A3.length 0 (some (22, 1)), .gp (s.length + 1) 0 (some (3, 1)), .gp (s.length + 2) 0 (some (3, 1)), .gp (S1.length + 1) 0 (some (35, 1)), .gp S1.length 0 (some (35, 1))]), (25, .bool true), (26, .int .i64 z.1)], [], z.2⟩) (Pr := fun z => z.1 ≤ np ∧ Good s ⟨s.length, s.length + 1, s.length + 2, S1.length, S1.length + 1, A2.length, A3.length, A4.length, rb, lb, ap, aq⟩ i m n np nq old z.2) (μ := fun z => np - z.1) (a := (0, F4)) (by simp) ⟨Nat.zero_le _, G4⟩ ?_
    rintro ⟨j2, S⟩ ⟨hj2, GS⟩
    simp only at hj2 GS ⊢
    clear q1 q2 q3 q4 G1 p1 p2 p3 p4 G2 o1 o2 o3 o4 G3 n1 n2 n3 n4 G4 u1 u2 u3 u4 u5 k1 k2 k3
    have z1 := GS.cp
    simp only [hM1] at z1
    by_cases hj2c : j2 < np
    · -- a hash of a record's proof is turned, and turned back
      obtain ⟨C1, F1, q1, ⟨a1, q2, q3⟩, q4, G1⟩ := hturn S GS (ap + j2) (.inr (.inr (.inl ⟨j2, hj2c, rfl⟩))) y
      obtain ⟨C2, F2, p1, ⟨a2, p2, p3⟩, p4, G2⟩ := hturn F1 G1 (ap + j2) (.inr (.inr (.inl ⟨j2, hj2c, rfl⟩))) y
      have z2 := G1.cp
      simp only [hM1] at z2
      have k1 := hrec F1 G1
      have w1 : IntKind.i64.wrap ((j2 : Int) + 1) = (j2 : Int) + 1 := wrap64 (by omega)
      simp (maxSteps := 4000000) [List.getElem?_cons_zero, List.getElem?_cons_succ, -getElem?_pos, hj2c, hrl, z1, hrg j2 hj2c, hcd, hk32, wk, q1, q2, q3, q4, z2, p1, p2, p3, p4, k1, w1]
      exact ⟨j2 + 1, F2, ⟨by omega, G2⟩, by omega, by simp, rfl⟩
    simp (maxSteps := 4000000) [List.getElem?_cons_zero, List.getElem?_cons_succ, -getElem?_pos, hj2c, hrl, z1]
    refine Post_loop (I := fun z : Nat × List (List AV) => ⟨[(4, .int .i64 c), (6, .gp s.length 0 (some (3, 1))), (8, .gp (s.length + 2) 0 (some (3, 1))), (11, .gp S1.length 0 (some (35, 1))), (15, .gp A2.length 0 (some (22, 1))), (17, .gp A3.length 0 (some (22, 1))), (19, .gp A4.length 0 (some (35, 1))), (21, .int .u8 (y.toNat : Int)), (24, .fn 42 [.gp A3.length 0 (some (22, 1)), .gp (s.length + 1) 0 (some (3, 1)), .gp (s.length + 2) 0 (some (3, 1)), .gp (S1.length + 1) 0 (some (35, 1)), .gp S1.length 0 (some (35, 1))]), (25, .bool true), (27, .int .i64 z.1)], [], z.2⟩) (Pr := fun z => z.1 ≤ nq ∧ Good s ⟨s.length, s.length + 1, s.length + 2, S1.length, S1.length + 1, A2.length, A3.length, A4.length, rb, lb, ap, aq⟩ i m n np nq old z.2) (μ := fun z => nq - z.1) (a := (0, S)) (by simp) ⟨Nat.zero_le _, GS⟩ ?_
    clear z1 GS
    rintro ⟨j3, S⟩ ⟨hj3, GS⟩
    simp only at hj3 GS ⊢
    have z1 := GS.cq
    simp only [hM2] at z1
    by_cases hj3c : j3 < nq
    · -- a hash of a longer log's proof is turned, and turned back
      obtain ⟨C1, F1, q1, ⟨a1, q2, q3⟩, q4, G1⟩ := hturn S GS (aq + j3) (.inr (.inr (.inr ⟨j3, hj3c, rfl⟩))) y
      obtain ⟨C2, F2, p1, ⟨a2, p2, p3⟩, p4, G2⟩ := hturn F1 G1 (aq + j3) (.inr (.inr (.inr ⟨j3, hj3c, rfl⟩))) y
      have z2 := G1.cq
      simp only [hM2] at z2
      have k1 := htree F1 G1
      have w1 : IntKind.i64.wrap ((j3 : Int) + 1) = (j3 : Int) + 1 := wrap64 (by omega)
      simp (maxSteps := 4000000) [List.getElem?_cons_zero, List.getElem?_cons_succ, -getElem?_pos, hj3c, hrl2, z1, hrg2 j3 hj3c, hcd, hk32, wk, q1, q2, q3, q4, z2, p1, p2, p3, p4, k1, w1]
      exact ⟨j3 + 1, F2, ⟨by omega, G2⟩, by omega, by simp, rfl⟩
    have y1 := GS.cp
    have y2 := GS.ci
    have y3 := GS.cn
    have y4 := GS.cl
    have y5 := GS.cr
    have hlow := GS.low
    have k1 := hmore S GS
    simp only [hM1] at y1 y2 y3 y4 y5 k1
    have d := hpos.own
    simp only at d
    have hbl : A2.length < S.length := (List.getElem?_eq_some_iff.1 y1).1
    obtain ⟨S', hS'⟩ : ∃ S', S.set A2.length [AV.sl .sh M1] = S' := ⟨_, rfl⟩
    have hget : ∀ b, A2.length ≠ b → S'[b]? = S[b]? := fun b hb => by rw [← hS', List.getElem?_set, if_neg hb]
    have y2' := (hget _ d.2.1).trans y2
    have y3' := (hget _ d.2.2.1).trans y3
    have y4' := (hget _ d.2.2.2.1).trans y4
    have y5' := (hget _ d.2.2.2.2).trans y5
    have hlow' : ∀ b, b < s.length → S'[b]? = s[b]? := fun b hb => (hget b (by omega)).trans (hlow b hb)
    have hlen' : s.length ≤ S'.length := by rw [← hS', List.length_set]; omega
    rw [hS'] at k1
    have hfin : lowS s S' := fun b hb => .inl (hlow' b hb)
    have htake : S'.take s.length = s := by
      apply List.ext_getElem?
      intro b
      rw [List.getElem?_take]
      split
      · exact hlow' b (by assumption)
      · rw [List.getElem?_eq_none (by omega)]
    simp (maxSteps := 4000000) [List.getElem?_cons_zero, List.getElem?_cons_succ, -getElem?_pos, -regionA_true, hj3c, hrl2, z1]
    refine Post_bndD [] _ (by rfl) (by simp (maxSteps := 4000000) [List.getElem?_cons_zero, List.getElem?_cons_succ, ]; exact rfl) ?_
    repeat (first
      | refine PostD_go _ (by rfl) (by rfl) (by simp (maxSteps := 4000000) [List.getElem?_cons_zero, List.getElem?_cons_succ, -getElem?_pos, z1, y1, y2', y3', y4', y5', hS', hrl, hall, hmost, need_of hmost, k1, hNum19]; exact rfl) (by first | exact .inl rfl | exact .inr rfl) (by rfl) ?_
      | refine PostD_no (by rfl) (by rfl) ?_)
    refine PostD_end ?_
    simp (maxSteps := 4000000) [List.getElem?_cons_zero, List.getElem?_cons_succ, need_of hfin, htake, Tryz.results9]
end Go.Proofs.Tryz.Ai
end
section
/- The statement that turns bits, where the first log is empty. -/
namespace Go.Proofs.Tryz.Ai
open Go Go.AI Go.Proofs
set_option maxHeartbeats 8000000
set_option maxRecDepth 4000
set_option linter.unusedVariables false

theorem proves_eq0 {s : List (List AV)} {p q : Nat} {LB : List (List UInt8)} (h : LogOf s p q LB) (i m n : Nat) (hi : i < n) (hm : m ≤ n) (hn : n ≤ LB.length) (bit : Int) (hm0 : (m = 0) = True) :
    ev 9 [logP p, .int .i64 i, .int .i64 m, .int .i64 n, .int .i64 bit] s = some (.bool true, s) := by
  have hlen := h.len
  obtain ⟨x, np, nq, old, S1, A2, A3, A4, R⟩ := ready h i m n hi hm hn
  obtain ⟨bi, bm, bn, br, bo, bp, bq, bl, rb, lb, ap, aq⟩ := x
  have c1 : bi = s.length := R.bi
  have c2 : bm = s.length + 1 := R.bm
  have c3 : bn = s.length + 2 := R.bn
  have c4 : br = S1.length := R.br
  have c5 : bo = S1.length + 1 := R.bo
  have c6 : bp = A2.length := R.bp
  have c7 : bq = A3.length := R.bq
  have c8 : bl = A4.length := R.bl
  subst c1 c2 c3 c4 c5 c6 c7 c8
  have r1 := R.root
  have r2 := R.old'
  have r3 := R.prove
  have r4 := R.proveT
  have r5 := R.hash
  have g1 := R.g1
  have g2 := R.g2
  have g3 := R.g3
  have g4 := R.g4
  have g5 := R.g5
  have g6 := R.g6
  have v1 := R.rec0
  have v2 := R.tree0
  have G := R.good
  have hpos := R.pos
  have hst := R.steps
  have hnp := R.np20
  have hnq := R.nq20
  have hold := R.old32
  clear R
  simp only at r1 r2 r3 r4 r5 g1 g2 g3 g4 g5 g6 v1 v2 G hpos
  obtain ⟨c, hc, hcm⟩ := mod256 bit
  have hc8 : ((c : Int).tmod 8) = ((c % 8 : Nat) : Int) := by rw [Int.tmod_eq_emod_of_nonneg (by omega)]; simp
  have hcd : ((c : Int).tdiv 8) = ((c / 8 : Nat) : Int) := by rw [Int.tdiv_eq_ediv_of_nonneg (by omega)]; simp
  obtain ⟨k, hk⟩ : ∃ k, c / 8 = k := ⟨_, rfl⟩
  have hk32 : k < 32 := by omega
  rw [hk] at hcd
  have wk : IntKind.i64.wrap (k : Int) = (k : Int) := wrap64 (by omega)
  have hNum0 : ∀ σ, ev 12 [.int .i64 0] σ = some (.int .i64 0, σ) := fun σ => Num_eq 0 σ
  have hNum19 : ∀ σ, ev 12 [.int .i64 19] σ = some (.int .i64 19, σ) := fun σ => Num_eq 19 σ
  have f1 := G.ci
  have f2 := G.cm
  have f3 := G.cn
  have f4 := G.cr
  have f5 := G.co
  have f6 := G.cp
  have f7 := G.cq
  have f8 := G.cl
  obtain ⟨F, hF⟩ : ∃ F, A4 ++ [[AV.ms 5 1 lb 0 32]] = F := ⟨_, rfl⟩
  rw [hF] at v1 v2 G f1 f2 f3 f4 f5 f6 f7 f8
  simp only at f1 f2 f3 f4 f5 f6 f7 f8
  simp only [logP]
  have hrl := msRow_len 5 ap np 32
  have hrl2 := msRow_len 5 aq nq 32
  have hrg : ∀ j, j < np → (msRow 5 ap np 32)[j]? = some (.ms 5 1 (ap + j) 0 32) := fun j hj => by simp [msRow, hj]
  have hrg2 : ∀ j, j < nq → (msRow 5 aq nq 32)[j]? = some (.ms 5 1 (aq + j) 0 32) := fun j hj => by simp [msRow, hj]
  have hmore := fun (S : List (List AV)) (GS : Good s ⟨s.length, s.length + 1, s.length + 2, S1.length, S1.length + 1, A2.length, A3.length, A4.length, rb, lb, ap, aq⟩ i m n np nq old S) => checkMore_eq GS hpos hnp hst ⟨hi, by omega⟩
  have hrec := fun (S : List (List AV)) (GS : Good s ⟨s.length, s.length + 1, s.length + 2, S1.length, S1.length + 1, A2.length, A3.length, A4.length, rb, lb, ap, aq⟩ i m n np nq old S) => record_eq GS (by omega)
  have htree := fun (S : List (List AV)) (GS : Good s ⟨s.length, s.length + 1, s.length + 2, S1.length, S1.length + 1, A2.length, A3.length, A4.length, rb, lb, ap, aq⟩ i m n np nq old S) => tree_eq GS (by omega) (by omega)
  simp only [pI, pB, pL] at hmore hrec htree
  have hturn := fun (S : List (List AV)) (GS : Good s ⟨s.length, s.length + 1, s.length + 2, S1.length, S1.length + 1, A2.length, A3.length, A4.length, rb, lb, ap, aq⟩ i m n np nq old S) (b : Nat) hb (y : UInt8) => GS.turnAt hpos (b := b) hb hk32 y
  have hall : allCells 1 (msRow 5 ap np 32) := fun y hy => by
    obtain ⟨z, _, rfl⟩ := List.mem_map.1 hy
    exact ⟨rfl, fun c hc => by simp [AV.cells] at hc; subst hc; rfl⟩
  have hmost : np + 1 ≤ most := by unfold most; omega
  generalize hM1 : msRow 5 ap np 32 = M1 at *
  generalize hM2 : msRow 5 aq nq 32 = M2 at *
  refine EV_post rfl Tryz.func9 rfl (by simp [Tryz.ntmps9]) (by kernel_rfl) (by kernel_rfl) ?_
  simp (maxSteps := 4000000) [List.getElem?_cons_zero, List.getElem?_cons_succ, -getElem?_pos, r1, r2, r3, r4, r5, g1, g2, g3, g4, g5, g6, hF, f1, f2, f3, f4, f5, f6, f7, f8, v1, v2, hNum0, hcm]
  refine Post_loop (I := fun z : Nat × UInt8 => ⟨[(4, .int .i64 c), (6, .gp s.length 0 (some (3, 1))), (7, .gp (s.length + 1) 0 (some (3, 1))), (8, .gp (s.length + 2) 0 (some (3, 1))), (11, .gp S1.length 0 (some (35, 1))), (13, .gp (S1.length + 1) 0 (some (35, 1))), (15, .gp A2.length 0 (some (22, 1))), (17, .gp A3.length 0 (some (22, 1))), (19, .gp A4.length 0 (some (35, 1))), (21, .int .u8 (z.2.toNat : Int)), (22, .int .i64 z.1)], [], F⟩)
    (Pr := fun z => z.1 ≤ c % 8) (μ := fun z => c % 8 - z.1) (a := (0, 1)) (by simp) (by simp) ?_
  rintro ⟨j, y⟩ hj
  simp only at hj ⊢
  obtain ⟨d, hd⟩ : ∃ d, c % 8 = d := ⟨_, rfl⟩
  rw [hd] at hc8 hj
  by_cases hjd : j < d
  · have w1 : IntKind.i64.wrap ((j : Int) + 1) = (j : Int) + 1 := wrap64 (by omega)
    obtain ⟨y', hy'⟩ := twice_u8 y
    simp (maxSteps := 4000000) [List.getElem?_cons_zero, List.getElem?_cons_succ, hc8, hjd, w1, hy', hd]
    exact ⟨j + 1, by omega, by omega, by simp⟩
  · obtain ⟨C1, F1, q1, ⟨a1, q2, q3⟩, q4, G1⟩ := hturn F G lb (.inr (.inl rfl)) y
    obtain ⟨C2, F2, p1, ⟨a2, p2, p3⟩, p4, G2⟩ := hturn F1 G1 lb (.inr (.inl rfl)) y
    obtain ⟨C3, F3, o1, ⟨a3, o2, o3⟩, o4, G3⟩ := hturn F2 G2 rb (.inl rfl) y
    obtain ⟨C4, F4, n1, ⟨a4, n2, n3⟩, n4, G4⟩ := hturn F3 G3 rb (.inl rfl) y
    have u1 := G1.cl
    have u2 := G2.cr
    have u3 := G3.cr
    have u4 := G3.cm
    have u5 := G1.cl
    simp only at u1 u2 u3 u4
    have k1 := hrec F1 G1
    have k2 := hrec F3 G3
    have k3 := htree F3 G3
    simp (maxSteps := 4000000) [List.getElem?_cons_zero, List.getElem?_cons_succ, -getElem?_pos, hc8, hjd, hcd, hk32, wk, f8, q1, q2, q3, q4, u1, p1, p2, p3, p4, u2, o1, o2, o3, o4, u3, n1, n2, n3, n4, u4, k1, k2, k3, hm0]
    refine Post_loop (I := fun z : Nat × List (List AV) => ⟨[(4, .int .i64 c), (6, .gp s.length 0 (some (3, 1))), (8, .gp (s.length + 2) 0 (some (3, 1))), (11, .gp S1.length 0 (some (35, 1))), (15, .gp A2.length 0 (some (22, 1))), (17, .gp A3.length 0 (some (22, 1))), (19, .gp A4.length 0 (some (35, 1))), (21, .int .u8 (y.toNat : Int)), (23, .fn 40 [.gp A2.length 0 (some (22, 1)), .gp s.length 0 (some (3, 1)), .gp (s.length + 2) 0 (some (3, 1)), .gp A4.length 0 (some (35, 1)), .gp S1.length 0 (some (35, 1))]), (24, .fn 42 [.gp A3.length 0 (some (22, 1)), .gp (s.length + 1) 0 (some (3, 1)), .gp (s.length + 2) 0 (some (3, 1)), .gp (S1.length + 1) 0 (some (35, 1)), .gp S1.length 0 (some (35, 1))]), (25, .bool true), (26, .int .i64 z.1)], [], z.2⟩) (Pr := fun z => z.1 ≤ np ∧ Good s ⟨s.length, s.length + 1, s.length + 2, S1.length, S1.length + 1, A2.length, A3.length, A4.length, rb, lb, ap, aq⟩ i m n np nq old z.2) (μ := fun z => np - z.1) (a := (0, F4)) (by simp) ⟨Nat.zero_le _, G4⟩ ?_
    rintro ⟨j2, S⟩ ⟨hj2, GS⟩
    simp only at hj2 GS ⊢
    clear q1 q2 q3 q4 G1 p1 p2 p3 p4 G2 o1 o2 o3 o4 G3 n1 n2 n3 n4 G4 u1 u2 u3 u4 u5 k1 k2 k3
    have z1 := GS.cp
    simp only [hM1] at z1
    by_cases hj2c : j2 < np
    · -- a hash of a record's proof is turned, and turned back
      obtain ⟨C1, F1, q1, ⟨a1, q2, q3⟩, q4, G1⟩ := hturn S GS (ap + j2) (.inr (.inr (.inl ⟨j2, hj2c, rfl⟩))) y
      obtain ⟨C2, F2, p1, ⟨a2, p2, p3⟩, p4, G2⟩ := hturn F1 G1 (ap + j2) (.inr (.inr (.inl ⟨j2, hj2c, rfl⟩))) y
      have z2 := G1.cp
      simp only [hM1] at z2
      have k1 := hrec F1 G1
      have w1 : IntKind.i64.wrap ((j2 : Int) + 1) = (j2 : Int) + 1 := wrap64 (by omega)
      simp (maxSteps := 4000000) [List.getElem?_cons_zero, List.getElem?_cons_succ, -getElem?_pos, hj2c, hrl, z1, hrg j2 hj2c, hcd, hk32, wk, q1, q2, q3, q4, z2, p1, p2, p3, p4, k1, w1]
      exact ⟨j2 + 1, F2, ⟨by omega, G2⟩, by omega, by simp, rfl⟩
    simp (maxSteps := 4000000) [List.getElem?_cons_zero, List.getElem?_cons_succ, -getElem?_pos, hj2c, hrl, z1]
    refine Post_loop (I := fun z : Nat × List (List AV) => ⟨[(4, .int .i64 c), (6, .gp s.length 0 (some (3, 1))), (8, .gp (s.length + 2) 0 (some (3, 1))), (11, .gp S1.length 0 (some (35, 1))), (15, .gp A2.length 0 (some (22, 1))), (17, .gp A3.length 0 (some (22, 1))), (19, .gp A4.length 0 (some (35, 1))), (21, .int .u8 (y.toNat : Int)), (24, .fn 42 [.gp A3.length 0 (some (22, 1)), .gp (s.length + 1) 0 (some (3, 1)), .gp (s.length + 2) 0 (some (3, 1)), .gp (S1.length + 1) 0 (some (35, 1)), .gp S1.length 0 (some (35, 1))]), (25, .bool true), (27, .int .i64 z.1)], [], z.2⟩) (Pr := fun z => z.1 ≤ nq ∧ Good s ⟨s.length, s.length + 1, s.length + 2, S1.length, S1.length + 1, A2.length, A3.length, A4.length, rb, lb, ap, aq⟩ i m n np nq old z.2) (μ := fun z => nq - z.1) (a := (0, S)) (by simp) ⟨Nat.zero_le _, GS⟩ ?_
    clear z1 GS
    rintro ⟨j3, S⟩ ⟨hj3, GS⟩
    simp only at hj3 GS ⊢
    have z1 := GS.cq
    simp only [hM2] at z1
    by_cases hj3c : j3 < nq
    · -- a hash of a longer log's proof is turned, and turned back
      obtain ⟨C1, F1, q1, ⟨a1, q2, q3⟩, q4, G1⟩ := hturn S GS (aq + j3) (.inr (.inr (.inr ⟨j3, hj3c, rfl⟩))) y
      obtain ⟨C2, F2, p1, ⟨a2, p2, p3⟩, p4, G2⟩ := hturn F1 G1 (aq + j3) (.inr (.inr (.inr ⟨j3, hj3c, rfl⟩))) y
      have z2 := G1.cq
      simp only [hM2] at z2
      have k1 := htree F1 G1
      have w1 : IntKind.i64.wrap ((j3 : Int) + 1) = (j3 : Int) + 1 := wrap64 (by omega)
      simp (maxSteps := 4000000) [List.getElem?_cons_zero, List.getElem?_cons_succ, -getElem?_pos, hj3c, hrl2, z1, hrg2 j3 hj3c, hcd, hk32, wk, q1, q2, q3, q4, z2, p1, p2, p3, p4, k1, w1]
      exact ⟨j3 + 1, F2, ⟨by omega, G2⟩, by omega, by simp, rfl⟩
    have y1 := GS.cp
    have y2 := GS.ci
    have y3 := GS.cn
    have y4 := GS.cl
    have y5 := GS.cr
    have hlow := GS.low
    have k1 := hmore S GS
    simp only [hM1] at y1 y2 y3 y4 y5 k1
    have d := hpos.own
    simp only at d
    have hbl : A2.length < S.length := (List.getElem?_eq_some_iff.1 y1).1
    obtain ⟨S', hS'⟩ : ∃ S', S.set A2.length [AV.sl .sh M1] = S' := ⟨_, rfl⟩
    have hget : ∀ b, A2.length ≠ b → S'[b]? = S[b]? := fun b hb => by rw [← hS', List.getElem?_set, if_neg hb]
    have y2' := (hget _ d.2.1).trans y2
    have y3' := (hget _ d.2.2.1).trans y3
    have y4' := (hget _ d.2.2.2.1).trans y4
    have y5' := (hget _ d.2.2.2.2).trans y5
    have hlow' : ∀ b, b < s.length → S'[b]? = s[b]? := fun b hb => (hget b (by omega)).trans (hlow b hb)
    have hlen' : s.length ≤ S'.length := by rw [← hS', List.length_set]; omega
    rw [hS'] at k1
    have hfin : lowS s S' := fun b hb => .inl (hlow' b hb)
    have htake : S'.take s.length = s := by
      apply List.ext_getElem?
      intro b
      rw [List.getElem?_take]
      split
      · exact hlow' b (by assumption)
      · rw [List.getElem?_eq_none (by omega)]
    simp (maxSteps := 4000000) [List.getElem?_cons_zero, List.getElem?_cons_succ, -getElem?_pos, -regionA_true, hj3c, hrl2, z1]
    refine Post_bndD [] _ (by rfl) (by simp (maxSteps := 4000000) [List.getElem?_cons_zero, List.getElem?_cons_succ, ]; exact rfl) ?_
    repeat (first
      | refine PostD_go _ (by rfl) (by rfl) (by simp (maxSteps := 4000000) [List.getElem?_cons_zero, List.getElem?_cons_succ, -getElem?_pos, z1, y1, y2', y3', y4', y5', hS', hrl, hall, hmost, need_of hmost, k1, hNum19]; exact rfl) (by first | exact .inl rfl | exact .inr rfl) (by rfl) ?_
      | refine PostD_no (by rfl) (by rfl) ?_)
    refine PostD_end ?_
    simp (maxSteps := 4000000) [List.getElem?_cons_zero, List.getElem?_cons_succ, need_of hfin, htake, Tryz.results9]
theorem proves_eq {s : List (List AV)} {p q : Nat} {LB : List (List UInt8)} (h : LogOf s p q LB) (i m n : Nat) (hi : i < n) (hm : m ≤ n) (hn : n ≤ LB.length) (bit : Int) :
    ev 9 [logP p, .int .i64 i, .int .i64 m, .int .i64 n, .int .i64 bit] s = some (.bool true, s) := by
  by_cases hm0 : m = 0
  · exact proves_eq0 h i m n hi hm hn bit (eq_true hm0)
  · exact proves_eq1 h i m n hi hm hn bit hm0
end Go.Proofs.Tryz.Ai
end
