/-
  A statement of the seat: what its contract is, and the claim. Conditions: as each says.
-/
import Derived.Test.YtlphlodailailaaGreatY26
import Derived.Test.YtlphlodailailaaGreatA09
set_option linter.unusedVariables false
set_option linter.unusedSimpArgs false
set_option maxHeartbeats 8000000
namespace Go.Proofs.YtlphlodailailaaGreat
open Go.Vw
attribute [local irreducible] awp awpL awpR

theorem leQRss (l : List (List Rat)) : LeD (qssD l) (rssD (l.map (·.map rq))) := LeD.sl (by simp) fun i a b ha hb => by
  simp only [List.getElem?_map] at hb
  rw [ha] at hb
  simp only [Option.map_some, Option.some.injEq] at hb
  subst hb
  exact ⟨rfl, LeL.cons (leQR a) LeL.nil⟩
theorem sameQs (F : List (List Rat)) (hl : F.length ≤ 1000) (ho : ∀ l ∈ F, l.length ≤ 1000 ∧ ∀ x ∈ l, okQ 1000000 x) : Ret Tryz.prog 19 [qssD F, qssD F] (· = .bool true) := by
  have ok : ∀ l ∈ F.map (·.map rq), l.length < 1000000000000 ∧ ∀ r ∈ l, okR 1000000000000 r := fun l hl => by
    obtain ⟨m, hm, rfl⟩ := List.mem_map.1 hl
    obtain ⟨h1, h2⟩ := ho m hm
    refine ⟨by rw [List.length_map]; omega, fun r hr => ?_⟩
    obtain ⟨q, hq, rfl⟩ := List.mem_map.1 hr
    exact okR_of (h2 q hq) (by decide)
  have h := ref03_SameLists (F.map (·.map rq)) (F.map (·.map rq)) (by rw [List.length_map]; omega) (by rw [List.length_map]; omega) ok ok
  rw [decide_eq_true rfl] at h
  exact h.args (LeT.cons (leQRss F) (LeT.cons (leQRss F) (LeT.refl _)))
theorem ctr_small {p : List Rat} (tp : Tr p) (p0 : p ≠ []) (hp : HtP 14 p) (lp : p.length ≤ 6) : CtrOk p ∧ ∃ M, JS (smallP (ctrQ p)) (smallP (derP (ctrQ p))) M := by
  have pw : (3 : Nat) ^ p.length ≤ 3 ^ 6 := Nat.pow_le_pow_right (by decide) lp
  have p6 : (3 : Nat) ^ 6 = 729 := by decide
  refine ctrOk_of (B := 11664) tp p0 hp (by decide) (by omega) (by decide) (by omega) (by decide) fun l g g1 gp hl h1 => ?_
  unfold Bud
  have hn : p.length + 1 - g ≤ 7 - g := by omega
  have q1 : (p.length + 1 - g) * l ≤ (7 - g) * l := Nat.mul_le_mul_right _ hn
  have q2 : (3 : Nat) ^ (p.length + 1 - g) ≤ 3 ^ (7 - g) := Nat.pow_le_pow_right (by decide) hn
  have fin : ∀ (m c : Nat), l ≤ m → 7 - g = c → 14 + c * m + m ≤ 2000000 → (14 + c * m + m + 3) * 3 ^ c ≤ 2000000 → 14 + (p.length + 1 - g) * l + l ≤ 2000000 ∧ (14 + (p.length + 1 - g) * l + l + 3) * 3 ^ (p.length + 1 - g) ≤ 2000000 := fun m c hm hc a b => by
    rw [hc] at q1 q2
    have q3 : c * l ≤ c * m := Nat.mul_le_mul_left _ hm
    refine ⟨by omega, Nat.le_trans (Nat.mul_le_mul (show _ ≤ 14 + c * m + m + 3 by omega) q2) b⟩
  have gs : g = 1 ∨ g = 2 ∨ g = 3 ∨ g = 4 ∨ g = 5 ∨ g = 6 := by omega
  rcases gs with e | e | e | e | e | e
  · exact fin 3 6 (by have := h1 e; omega) (by omega) (by decide) (by decide)
  · subst e; have := hl (by decide); exact fin 1296 5 (by omega) (by omega) (by decide) (by decide)
  · subst e; have := hl (by decide); exact fin 432 4 (by omega) (by omega) (by decide) (by decide)
  · subst e; have := hl (by decide); exact fin 144 3 (by omega) (by omega) (by decide) (by decide)
  · subst e; have := hl (by decide); exact fin 48 2 (by omega) (by omega) (by decide) (by decide)
  · subst e; have := hl (by decide); exact fin 16 1 (by omega) (by omega) (by decide) (by decide)
theorem chains_true (a b : List Int) (lo hi : Int) (na : a.length ≤ 9223372036854775807) (nb : b.length ≤ 9223372036854775807) (xa : I64 a) (xb : I64 b) (l1 : -9223372036854775808 ≤ lo) (l2 : lo < 9223372036854775808) (h1 : -9223372036854775808 ≤ hi) (h2 : hi < 9223372036854775808) : Ret Tryz.prog 3 [i64s a, i64s b, .int .i64 lo, .int .i64 hi] (· = .bool true) := by
  have aw := law05_awake
  have sa := law05_small a 6 na xa (by decide)
  have sb := law05_small b 6 nb xb (by decide)
  have n1 := made_Number lo l1 l2
  have n2 := made_Number hi h1 h2
  have op := nums2 a 6
  have oq := nums2 b 6
  have ox := numQ2 lo
  have oy := numQ2 hi
  have lp : ((a.take 6).map numQ).length ≤ 6 := by rw [List.length_map, List.length_take]; omega
  have lq : ((b.take 6).map numQ).length ≤ 6 := by rw [List.length_map, List.length_take]; omega
  generalize (a.take 6).map numQ = p at *
  generalize (b.take 6).map numQ = q at *
  generalize numQ lo = x at *
  generalize numQ hi = y at *
  clear na nb xa xb l1 l2 h1 h2
  have tp := tr_trim p
  have tq := tr_trim q
  have hP := ht2 op lp
  have hQ := ht2 oq lq
  have lP : (trimP p).length ≤ 6 := Nat.le_trans (trim_len p) lp
  have lQ : (trimP q).length ≤ 6 := Nat.le_trans (trim_len q) lq
  have okp : ∀ x ∈ p, okQ 1000000 x := fun x hx => (op x hx).mono (by decide)
  have okq : ∀ x ∈ q, okQ 1000000 x := fun x hx => (oq x hx).mono (by decide)
  -- the divisor
  have jg : JG (trimP p) (trimP q) := JG.of tp tq hP hQ (by
    have := Nat.mul_le_mul_left (6 * 2 + 2 + 1) (Nat.pow_le_pow_right (show 0 < 3 by decide) (show max (trimP p).length ((trimP q).length + 1) ≤ 7 by omega))
    unfold Bud; omega)
  have g1 := polynomial_GcdQ p q (by omega) (by omega) (fun x hx => (op x hx).mono (by decide)) (fun x hx => (oq x hx).mono (by decide)) jg
  have g2 := ref05_Gcd (p.map rq) (q.map rq) (by rw [List.length_map]; omega) (by rw [List.length_map]; omega) (rqs_ok fun x hx => (op x hx).mono (by decide)) (rqs_ok fun x hx => (oq x hx).mono (by decide)) (by rw [map_rv_rqL, map_rv_rqL]; exact jg)
  rw [map_rv_rqL, map_rv_rqL] at g2
  replace g2 := g2.args (leQRs p (leQRs q (LeT.refl _)))
  obtain ⟨Mg, hg1, hg2⟩ := JG.gcd _ jg (Nat.le_refl _)
  have gl := gcd_len _ tp tq (Nat.le_refl _)
  have s1 := sameQ (gcdP (trimP p) (trimP q)) (by omega) (fun x hx => (hg1.okL x hx).mono (by
    have := Nat.mul_le_mul_left (Mg + 1) (show 1 ≤ 3 ^ (gcdP (trimP p) (trimP q)).length from Nat.pow_pos (by decide))
    unfold Bud at hg2
    omega))
  -- the chain
  have tE := tr_trim (derC p)
  have hE : HtP 15 (derP p) := by
    have := ht_der hP (by omega)
    rw [derP_trim] at this
    exact this
  have lt : trimP p ≠ [] → (derP p).length < (trimP p).length := derP_lt
  have js : JS (trimP p) (derP p) 15 := ⟨tp, tE, lt, hP.mono (by decide), hE, by
    have := Nat.mul_le_mul_left (15 + 1) (Nat.pow_le_pow_right (show 0 < 3 by decide) lP)
    unfold Bud; omega⟩
  have c0 := polynomial_sturmJ 65 id ChOk.id (fun r tr rl ok => chain_id r (by omega)) (p.map rq) (by rw [List.length_map]; omega) (rqs_ok fun x hx => (op x hx).mono (by decide)) 15 (by rw [map_rv_rqL]; exact js)
  have c1 := polynomial_Chain _ _ c0
  have c2 := ref05_Chain (p.map rq) (by rw [List.length_map]; omega) (rqs_ok fun x hx => (op x hx).mono (by decide)) 15 (by rw [map_rv_rqL]; exact js)
  rw [map_rv_rqL] at c1 c2
  replace c1 := c1.args (leQRs p (LeT.refl _))
  replace c2 := c2.args (leQRs p (LeT.refl _))
  rw [List.length_map] at c1 c2
  have fit := js.chain ChOk.id (p.length + 1)
  have hcl := chain_len id (p.length + 1) (trimP p) (derP p)
  have s2 := sameQs (chainL id (p.length + 1) (trimP p) (derP p)) (by omega) (fun f hf => by
    obtain ⟨_, M, f1, f2⟩ := fit f hf
    have b2 := f2
    unfold Bud at b2
    refine ⟨?_, fun x hx => (f1.okL x hx).mono ?_⟩
    · by_cases g0 : f.length ≤ 13
      · omega
      · exfalso
        have b3 := Nat.pow_le_pow_right (show 0 < 3 by decide) (show 14 ≤ f.length by omega)
        have b4 := Nat.mul_le_mul_right (3 ^ f.length) (show 1 ≤ M + 1 by omega)
        have b5 : (3 : Nat) ^ 14 = 4782969 := by decide
        omega
    · have b3 := Nat.pow_le_pow_right (show 0 < 3 by decide) (show 1 ≤ f.length from List.length_pos_iff.2 (List.ne_nil_of_mem hx))
      have b4 := Nat.mul_le_mul_left (M + 1) b3
      omega)
  -- the roots
  have k1 := polynomial_Count (p.map rq) (rq x) (rq y) (by rw [List.length_map]; omega) (rqs_ok fun x hx => (op x hx).mono (by decide)) (by rw [map_rv_rqL]; exact fun h0 => (ctr_small tp h0 hP lP).1) (ok_rq (ox.mono (by decide))) (ok_rq (oy.mono (by decide)))
  have k2 := ref05_Count (p.map rq) (rq x) (rq y) (by rw [List.length_map]; omega) (rqs_ok fun x hx => (op x hx).mono (by decide)) (by rw [map_rv_rqL]; exact fun h0 => ctr_small tp h0 hP lP) (ok_rq (ox.mono (by decide))) (ok_rq (oy.mono (by decide)))
  rw [map_rv_rqL, rv_rq, rv_rq] at k1 k2
  replace k1 := k1.args (leQRs p (LeT.refl _))
  replace k2 := k2.args (leQRs p (LeT.refl _))
  generalize gcdP (trimP p) (trimP q) = G at *
  generalize chainL id (p.length + 1) (trimP p) (derP p) = C at *
  generalize (if trimP p = [] then (-1 : Int) else cntF (ctr (trimP p)) x y) = v at *
  clear op oq ox oy tp tq hP hQ okp okq jg hg1 hg2 tE hE lt js fit c0
  refine ret_of_awp tab Tryz.func3 rfl rfl (Nat.le_of_ble_eq_true rfl) (fun w0 F0 => ?_)
  repeat' (first
    | (show awpL _ _ _ _ _; first | refine goL ?_ | refine cl 13 tt rfl rfl rfl (hr := sa) (k := ?_) | refine cl 13 tt rfl rfl rfl (hr := sb) (k := ?_) | refine cl 14 tt rfl rfl rfl (hr := n1) (k := ?_) | refine cl 14 tt rfl rfl rfl (hr := n2) (k := ?_) | refine cl 15 tt rfl rfl rfl (hr := aw) (k := ?_) | refine cl 17 tt rfl rfl rfl (hr := g1) (k := ?_) | refine cl 18 tt rfl rfl rfl (hr := g2) (k := ?_) | refine cl 16 tt rfl rfl rfl (hr := s1) (k := ?_) | refine cl 20 tt rfl rfl rfl (hr := c1) (k := ?_) | refine cl 21 tt rfl rfl rfl (hr := c2) (k := ?_) | refine cl 19 tt rfl rfl rfl (hr := s2) (k := ?_) | refine cl 22 tt rfl rfl rfl (hr := k1) (k := ?_) | refine cl 23 tt rfl rfl rfl (hr := k2) (k := ?_) | (refine gdLG ?_ ?_ <;> intro _ <;> try (exfalso; omega)))
    | (show awp _ _ _ _; first | refine goA ?_ | refine rg 3 25 ?_ | (refine cdG ?_ ?_ <;> intro _ <;> try (exfalso; omega)))
    | (show andThen _ _ _ _; refine goN ?_)
    | (show inBlock _ _ _ _; refine goB ?_)
    | (show awpR _ _ _ _ _ _ _; first | refine goR ?_ | refine clR 13 tt rfl rfl rfl (hr := sa) (k := ?_) | refine clR 13 tt rfl rfl rfl (hr := sb) (k := ?_) | refine clR 14 tt rfl rfl rfl (hr := n1) (k := ?_) | refine clR 14 tt rfl rfl rfl (hr := n2) (k := ?_) | refine clR 15 tt rfl rfl rfl (hr := aw) (k := ?_) | refine clR 17 tt rfl rfl rfl (hr := g1) (k := ?_) | refine clR 18 tt rfl rfl rfl (hr := g2) (k := ?_) | refine clR 16 tt rfl rfl rfl (hr := s1) (k := ?_) | refine clR 20 tt rfl rfl rfl (hr := c1) (k := ?_) | refine clR 21 tt rfl rfl rfl (hr := c2) (k := ?_) | refine clR 19 tt rfl rfl rfl (hr := s2) (k := ?_) | refine clR 22 tt rfl rfl rfl (hr := k1) (k := ?_) | refine clR 23 tt rfl rfl rfl (hr := k2) (k := ?_) | (refine gdRG ?_ ?_ <;> intro _ <;> try (exfalso; omega)))
    | (show retPost _ _ _ _ _; refine finG ?_))
  all_goals simp
end Go.Proofs.YtlphlodailailaaGreat
