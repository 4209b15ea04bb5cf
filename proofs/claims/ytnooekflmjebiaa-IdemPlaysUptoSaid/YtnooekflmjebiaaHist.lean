/- A history and what is remembered of it; what the reference computes of a history (printed functions). -/
import Derived.Test.YtnooekflmjebiaaApartP
import Derived.Test.YtnooekflmjebiaaPIdemPlaysx8
import Derived.Test.YtnooekflmjebiaaPIdemPlaysx9
import Derived.Test.YtnooekflmjebiaaPIdemPlaysx11
import Derived.Test.YtnooekflmjebiaaPIdemPlaysx12
namespace Go.Proofs.Ytnooekflmjebiaa
open Go Go.RowKit Go.Proofs.YtnooekflmjebiaaW.PrintWords Go.Proofs.Ytnooekflmjebiaa.PIdemPlays
set_option linter.unusedVariables false

section
variable {α : Type} (ep : α → Int)
/-- The batches at the end that have one epoch, at most five. -/
def rem : List α → List α
  | [] => []
  | m :: L => if (∀ x ∈ L, ep x = ep m) ∧ L.length < 5 then m :: rem L else rem L
theorem rem_pos {m : α} {L : List α} (h1 : ∀ x ∈ L, ep x = ep m) (h2 : L.length < 5) : rem ep (m :: L) = m :: rem ep L := by rw [rem]; exact if_pos ⟨h1, h2⟩
theorem rem_neg {m : α} {L : List α} (h : ¬((∀ x ∈ L, ep x = ep m) ∧ L.length < 5)) : rem ep (m :: L) = rem ep L := by rw [rem]; exact if_neg h
theorem rem_same : ∀ (L : List α) (e : Int), (∀ x ∈ L, ep x = e) → L.length ≤ 5 → rem ep L = L
  | [], _, _, _ => rfl
  | m :: L, e, h, hl => by
    rw [List.length_cons] at hl
    have hm := h m (List.mem_cons_self ..)
    have hL := fun x hx => h x (List.mem_cons_of_mem m hx)
    rw [rem_pos ep (fun x hx => by rw [hm]; exact hL x hx) (by omega), rem_same L e hL (by omega)]
theorem rem_one : ∀ (L : List α), (∀ x ∈ rem ep L, ∀ y ∈ rem ep L, ep x = ep y) ∧ (rem ep L).length ≤ 5 ∧ (L ≠ [] → rem ep L ≠ []) ∧ ∀ x ∈ rem ep L, x ∈ L
  | [] => ⟨fun x hx => by simp [rem] at hx, by simp [rem], fun h => absurd rfl h, fun x hx => by simp [rem] at hx⟩
  | m :: L => by
    obtain ⟨h1, h2, h3, h4⟩ := rem_one L
    rw [rem]
    split
    · rename_i h
      have hr := rem_same ep L (ep m) h.1 (by omega)
      rw [hr]
      refine ⟨fun x hx y hy => ?_, by rw [List.length_cons]; omega, fun _ => by simp, fun x hx => hx⟩
      have e : ∀ z ∈ m :: L, ep z = ep m := fun z hz => by
        rcases List.mem_cons.1 hz with rfl | hz
        · rfl
        · exact h.1 z hz
      rw [e x hx, e y hy]
    · rename_i h
      refine ⟨h1, h2, fun _ => h3 ?_, fun x hx => List.mem_cons_of_mem _ (h4 x hx)⟩
      rintro rfl
      exact h ⟨fun x hx => (by cases hx), Nat.zero_lt_succ _⟩
/-- One more batch. -/
theorem rem_snoc (m : α) : ∀ L : List α, rem ep (L ++ [m]) = match rem ep L with
    | [] => [m]
    | l :: r => if ep l ≠ ep m then [m] else ((l :: r) ++ [m]).drop ((l :: r).length + 1 - 5)
  | [] => by simp [rem]
  | x :: L => by
    have ih := rem_snoc m L
    rw [List.cons_append]
    have hlen : (L ++ [m]).length = L.length + 1 := by rw [List.length_append, List.length_singleton]
    by_cases hc : (∀ y ∈ L, ep y = ep x) ∧ L.length < 5
    · have hr := rem_same ep L (ep x) hc.1 (by omega)
      rw [rem_pos ep hc.1 hc.2, hr]
      rw [hr] at ih
      simp only
      by_cases hx : ep x = ep m
      · have hall : ∀ y ∈ L ++ [m], ep y = ep x := fun y hy => by
          rcases List.mem_append.1 hy with h | h
          · exact hc.1 y h
          · simp at h; rw [h, hx]
        have hf := rem_same ep (L ++ [m]) (ep x) hall (by omega)
        refine Eq.trans ?_ (if_neg (fun h => h hx)).symm
        by_cases h4 : L.length < 4
        · rw [rem_pos ep hall (by omega), hf, List.length_cons, show L.length + 1 + 1 - 5 = 0 by omega, List.drop_zero, List.cons_append]
        · rw [rem_neg ep (fun h => by have := h.2; omega), hf, List.length_cons, show L.length + 1 + 1 - 5 = 1 by omega]
          rfl
      · rw [rem_neg ep (fun h => hx (h.1 m (by simp)).symm), ih]
        refine Eq.trans ?_ (if_pos hx).symm
        cases L with
        | nil => rfl
        | cons y L => exact if_pos (by rw [hc.1 y (List.mem_cons_self ..)]; exact hx)
    · rw [rem_neg ep hc, rem_neg ep (fun h => hc ⟨fun y hy => h.1 y (List.mem_append_left _ hy), by have := h.2; omega⟩), ih]
/-- What stands ahead of five, or of one of another epoch, is forgotten. -/
theorem rem_ahead (B : List α) (hB : (∃ x ∈ B, ∃ y ∈ B, ep x ≠ ep y) ∨ 5 ≤ B.length) : ∀ A : List α, rem ep (A ++ B) = rem ep B
  | [] => rfl
  | a :: A => by
    rw [List.cons_append, rem_neg, rem_ahead B hB A]
    rintro ⟨h1, h2⟩
    rw [List.length_append] at h2
    rcases hB with ⟨x, hx, y, hy, hne⟩ | h
    · exact hne ((h1 x (List.mem_append_right _ hx)).trans (h1 y (List.mem_append_right _ hy)).symm)
    · omega
end

/-- The batches of a producer that are not forgotten. -/
def live (h : List S42) (p : Int) : List S42 := h.filter fun m => m.f0 == p && !m.f5
def mkS (m : S42) : Mk := ⟨m.f2, m.f3, m.f4⟩
def remS (h : List S42) (p : Int) : List S42 := rem S42.f1 (live h p)
/-- What the history remembers. -/
def hg (h : List S42) (p : Int) : Option (Int × List Mk) := match remS h p with
  | [] => none
  | m :: r => some (m.f1, (m :: r).map mkS)

theorem hg_nil : hg [] = g0 := rfl
theorem live_snoc (h : List S42) (m : S42) (p : Int) : live (h ++ [m]) p = live h p ++ if m.f0 == p && !m.f5 then [m] else [] := by
  unfold live
  rw [List.filter_append, List.filter_cons, List.filter_nil]
theorem hg_snoc (h : List S42) (p ep s c base x : Int) : hg (h ++ [⟨p, ep, s, c, base, false⟩]) x = if x = p then some (noteM (hg h p) ep ⟨s, c, base⟩) else hg h x := by
  unfold hg remS
  rw [live_snoc]
  by_cases hx : x = p
  · subst hx
    simp only [beq_self_eq_true, Bool.not_false, Bool.and_self, if_true]
    rw [rem_snoc]
    cases hr : rem S42.f1 (live h x) with
    | nil => simp [noteM, mkS]
    | cons l r =>
      have h1 := rem_one S42.f1 (live h x)
      rw [hr] at h1
      simp only [noteM]
      by_cases he : l.f1 = ep
      · have e : ((l :: r) ++ [(⟨x, ep, s, c, base, false⟩ : S42)]).drop ((l :: r).length + 1 - 5) ≠ [] := fun hn => by
          have := congrArg List.length hn
          simp at this
          have := h1.2.1
          simp at this
          omega
        have hmap : (((l :: r) ++ [(⟨x, ep, s, c, base, false⟩ : S42)]).drop ((l :: r).length + 1 - 5)).map mkS = ((l :: r).map mkS ++ [(⟨s, c, base⟩ : Mk)]).drop (((l :: r).map mkS).length + 1 - 5) := by
          rw [List.map_drop, List.map_append, List.length_map]
          rfl
        rw [if_neg (by simpa using he)]
        cases hd : ((l :: r) ++ [(⟨x, ep, s, c, base, false⟩ : S42)]).drop ((l :: r).length + 1 - 5) with
        | nil => exact absurd hd e
        | cons d t =>
          have hdm : d ∈ (l :: r) ++ [(⟨x, ep, s, c, base, false⟩ : S42)] := List.mem_of_mem_drop (by rw [hd]; exact List.mem_cons_self ..)
          have hde : d.f1 = ep := by
            rcases List.mem_append.1 hdm with hm | hm
            · rw [h1.1 d hm l (List.mem_cons_self ..), he]
            · simp at hm; rw [hm]
          rw [hd] at hmap
          simp only
          rw [hmap, hde, if_neg (by simpa using he)]
      · simp [he, mkS]
  · rw [if_neg hx]
    have : ((p == x) && !false) = false := by simp; exact fun e => hx e.symm
    simp only [this, Bool.false_eq_true, if_false, List.append_nil]

/-- Is a batch remembered, with what stands behind it? -/
def remd (m : S42) (T : List S42) : Bool := !m.f5 && decide ((∀ x ∈ live T m.f0, x.f1 = m.f1) ∧ (live T m.f0).length < 5)
/-- The history behind Forget. -/
def fgt (base : Int) : List S42 → List S42
  | [] => []
  | m :: T => (if m.f4 < base then { m with f5 := true } else if remd m T = true then m else { m with f5 := true }) :: fgt base T
theorem fgt_length (base : Int) : ∀ h, (fgt base h).length = h.length
  | [] => rfl
  | m :: T => by rw [fgt, List.length_cons, List.length_cons, fgt_length base T]
theorem fgt_pid (base : Int) : ∀ h, (∀ m ∈ h, 0 ≤ m.f0) → ∀ m ∈ fgt base h, 0 ≤ m.f0
  | [], _, m, hm => by simp [fgt] at hm
  | x :: T, h, m, hm => by
    rw [fgt] at hm
    rcases List.mem_cons.1 hm with rfl | hm
    · have := h x (List.mem_cons_self ..)
      split
      · exact this
      · split
        · exact this
        · exact this
    · exact fgt_pid base T (fun y hy => h y (List.mem_cons_of_mem _ hy)) m hm
theorem live_cons (m : S42) (T : List S42) (p : Int) : live (m :: T) p = if m.f0 == p && !m.f5 then m :: live T p else live T p := by
  unfold live
  rw [List.filter_cons]
theorem fgt_live (base : Int) (p : Int) : ∀ h, live (fgt base h) p = (remS h p).filter fun m => !decide (m.f4 < base)
  | [] => rfl
  | m :: T => by
    have ih := fgt_live base p T
    unfold remS at ih ⊢
    rw [fgt, live_cons, live_cons, ih]
    by_cases hm : (m.f0 == p && !m.f5) = true
    · obtain ⟨h0, h5⟩ := Bool.and_eq_true_iff.1 hm
      have h0' : m.f0 = p := by simpa using h0
      have h5' : m.f5 = false := by simpa using h5
      rw [if_pos hm, rem]
      have hrd : remd m T = decide ((∀ x ∈ live T p, x.f1 = m.f1) ∧ (live T p).length < 5) := by unfold remd; rw [h5', h0']; rfl
      by_cases hb : m.f4 < base
      · rw [if_pos hb, if_neg (by simp)]
        split
        · rw [List.filter_cons, if_neg (by simpa using hb)]
        · rfl
      · rw [if_neg hb]
        by_cases hc : (∀ x ∈ live T p, x.f1 = m.f1) ∧ (live T p).length < 5
        · rw [if_pos (show remd m T = true by rw [hrd]; exact decide_eq_true hc), if_pos hm, if_pos hc, List.filter_cons, if_pos (by simpa using hb)]
        · rw [if_neg (show ¬ remd m T = true by rw [hrd]; simpa using hc), if_neg (by simp), if_neg hc]
    · have hm' : ∀ b : Bool, (m.f0 == p && !m.f5) = false := fun _ => by simpa using hm
      rw [if_neg hm]
      have hx : ∀ y : S42, y = m ∨ y.f5 = true → (if (y.f0 == p && !y.f5) = true then y :: (rem S42.f1 (live T p)).filter (fun m => !decide (m.f4 < base)) else (rem S42.f1 (live T p)).filter (fun m => !decide (m.f4 < base))) = (rem S42.f1 (live T p)).filter (fun m => !decide (m.f4 < base)) := fun y h => by
        rcases h with rfl | h
        · exact if_neg hm
        · exact if_neg (by rw [h]; simp)
      refine hx _ ?_
      split
      · exact .inr rfl
      · split
        · exact .inl rfl
        · exact .inr rfl
theorem fgt_hg (base : Int) (h : List S42) : hg (fgt base h) = forgetT (hg h) base := by
  funext p
  unfold forgetT hg
  have h1 := rem_one S42.f1 (live h p)
  have e : remS (fgt base h) p = (remS h p).filter fun m => !decide (m.f4 < base) := by
    show rem S42.f1 (live (fgt base h) p) = _
    rw [fgt_live]
    cases hr : remS h p with
    | nil => rfl
    | cons d t =>
      refine rem_same _ _ d.f1 (fun x hx => ?_) (Nat.le_trans (List.length_filter_le _ _) ?_)
      · have hx' := (List.mem_filter.1 hx).1
        rw [← hr] at hx'
        exact h1.1 x hx' d (by show d ∈ remS h p; rw [hr]; exact List.mem_cons_self ..)
      · rw [← hr]; exact h1.2.1
  rw [e]
  cases hr : remS h p with
  | nil => rfl
  | cons d t =>
    have hsame : ∀ x ∈ d :: t, x.f1 = d.f1 := fun x hx => by
      refine h1.1 x (by show x ∈ remS h p; rw [hr]; exact hx) d (by show d ∈ remS h p; rw [hr]; exact List.mem_cons_self ..)
    simp only
    have hany : (((d :: t).map mkS).any fun k => decide (base ≤ k.base)) = true ↔ ((d :: t).filter fun m => !decide (m.f4 < base)) ≠ [] := by
      rw [List.any_eq_true]
      constructor
      · rintro ⟨k, hk, hd⟩ hn
        obtain ⟨x, hx, rfl⟩ := List.mem_map.1 hk
        have : x ∈ ((d :: t).filter fun m => !decide (m.f4 < base)) := List.mem_filter.2 ⟨hx, by have hd' : base ≤ x.f4 := of_decide_eq_true hd; simp; omega⟩
        rw [hn] at this
        cases this
      · intro hn
        obtain ⟨x, hx⟩ := List.exists_mem_of_ne_nil _ hn
        obtain ⟨hx1, hx2⟩ := List.mem_filter.1 hx
        exact ⟨mkS x, List.mem_map_of_mem hx1, decide_eq_true (show base ≤ x.f4 from (by have : ¬ x.f4 < base := (by simpa using hx2); omega))⟩
    have hmap : ((d :: t).filter fun m => !decide (m.f4 < base)).map mkS = ((d :: t).map mkS).filter fun m => !decide (m.base < base) := by
      rw [List.filter_map]
      rfl
    cases hf : (d :: t).filter fun m => !decide (m.f4 < base) with
    | nil => rw [if_neg (fun h => hany.1 h hf)]
    | cons y r =>
      rw [if_pos (hany.2 (by rw [hf]; simp)), ← hmap, hf]
      simp only
      have hy : y ∈ d :: t := (List.mem_filter.1 (show y ∈ (d :: t).filter fun m => !decide (m.f4 < base) by rw [hf]; exact List.mem_cons_self ..)).1
      rw [hsame y hy]
end Go.Proofs.Ytnooekflmjebiaa
namespace Go.Proofs.Ytnooekflmjebiaa
open Go Go.RowKit Go.Proofs.YtnooekflmjebiaaW.PrintWords Go.Proofs.Ytnooekflmjebiaa.PIdemPlays
set_option linter.unusedVariables false

theorem w64 {n : Int} (h : -9223372036854775808 ≤ n ∧ n ≤ 9223372036854775807) : wrap64 n = n := by unfold wrap64; omega
theorem rd_at {xs : List S42} {i : Nat} {m : S42} (h : xs[i]? = some m) : rd_T42 xs (i : Int) = m := by
  unfold rd_T42
  rw [Int.toNat_natCast, List.getD_eq_getElem?_getD, h]
  rfl

theorem of_l1 (b : List S42) (hb : b.length ≤ 5) : ∀ (i k : Nat) (x8 : List S42), i ≤ b.length → x8.length + i ≤ 5 → i < k → leatref21_Of.l1 k b x8 ((i : Int) - 1) = some (x8 ++ (b.take i).reverse)
  | 0, 0, _, _, _, h => by omega
  | 0, k + 1, x8, _, _, _ => by
    rw [leatref21_Of.l1, if_neg (by omega)]
    simp
  | i + 1, 0, _, _, _, h => by omega
  | i + 1, k + 1, x8, hi, h8, hk => by
    have hm : b[i]? = some b[i] := List.getElem?_eq_getElem (by omega)
    have e : ((i + 1 : Nat) : Int) - 1 = (i : Int) := by omega
    rw [leatref21_Of.l1, e, rd_at hm, if_pos (by omega), if_pos (by omega), if_pos (by omega), if_pos (by omega), w64 (by omega), of_l1 b hb i k _ (by omega) (by simp; omega) (by omega)]
    have ht : (b.take (i + 1)).reverse = b[i] :: (b.take i).reverse := by
      rw [List.take_add_one, hm, List.reverse_append]
      rfl
    rw [ht, List.append_assoc]
    rfl
theorem of_done (x0 : List S42) (p : Int) (b : List S42) (i : Int) (k : Nat) (hb : b.length ≤ 5) (hk : 10 ≤ k) : leatref21_Of.j1 k x0 p b i false = some b.reverse := by
  obtain ⟨k, rfl⟩ : ∃ k', k = k' + 1 := ⟨k - 1, by omega⟩
  rw [leatref21_Of.j1, if_neg (by simp), w64 (by omega), of_l1 b hb b.length k [] (Nat.le_refl _) (by simpa using hb) (by omega)]
  simp

theorem live_split (h : List S42) (j : Nat) (p : Int) : live h p = live (h.take j) p ++ live (h.drop j) p := by
  unfold live
  rw [← List.filter_append, List.take_append_drop]
theorem of_l0 (h : List S42) (p : Int) (hm : h.length ≤ 4611686018427387904) : ∀ (j k : Nat) (b : List S42), j ≤ h.length → b.reverse = live (h.drop j) p → (∀ x ∈ b, ∀ y ∈ b, x.f1 = y.f1) → b.length ≤ 5 → 3 * j + 20 ≤ k → leatref21_Of.l0 k h p b ((j : Int) - 1) = some (remS h p)
  | j, 0, _, _, _, _, _, hk => by omega
  | j, 1, _, _, _, _, _, hk => by omega
  | j, 2, _, _, _, _, _, hk => by omega
  | j, k + 3, b, hj, hb, hs, h5, hk => by
    have hsr : ∀ x ∈ live (h.drop j) p, ∀ y ∈ live (h.drop j) p, x.f1 = y.f1 := fun x hx y hy => hs x (by rw [← hb] at hx; exact List.mem_reverse.1 hx) y (by rw [← hb] at hy; exact List.mem_reverse.1 hy)
    have hlen : (live (h.drop j) p).length = b.length := by rw [← hb, List.length_reverse]
    have hself : rem S42.f1 (live (h.drop j) p) = b.reverse := by
      rw [hb]
      cases hc : live (h.drop j) p with
      | nil => rfl
      | cons d t =>
        rw [hc] at hsr hlen
        exact rem_same _ _ d.f1 (fun x hx => hsr x hx d (List.mem_cons_self ..)) (by omega)
    rw [leatref21_Of.l0]
    rcases j with _ | j
    · rw [if_neg (by omega), of_done h p b _ _ h5 (by omega), ← hself]
      rfl
    · have e : ((j + 1 : Nat) : Int) - 1 = (j : Int) := by omega
      rw [e, if_pos (by omega)]
      by_cases h4 : b.length < 5
      · obtain ⟨m, hmj⟩ : ∃ m, h[j]? = some m := ⟨_, List.getElem?_eq_getElem (by omega)⟩
        have hdj : h.drop j = m :: h.drop (j + 1) := by
          rw [List.drop_eq_getElem_cons (by omega)]
          congr 1
          rw [List.getElem?_eq_getElem (by omega)] at hmj
          injection hmj
        have hlc := live_cons m (h.drop (j + 1)) p
        rw [← hdj] at hlc
        rw [decide_eq_true (show (b.length : Int) < 5 by omega), leatref21_Of.j1, if_pos rfl, rd_at hmj, if_pos (by omega), if_pos (by omega)]
        have hno : (m.f0 == p && !m.f5) = false → leatref21_Of.l0 k h p b (wrap64 ((j : Int) - 1)) = some (remS h p) := fun hf => by
          rw [w64 (by omega), of_l0 h p hm j k b (by omega) (by rw [hb, hlc, hf]; rfl) hs h5 (by omega)]
        by_cases hp : m.f0 = p
        · rw [if_pos hp, leatref21_Of.j2]
          cases hg5 : m.f5 with
          | true =>
            rw [if_neg (by simp)]
            exact hno (by rw [hg5]; simp)
          | false =>
            have hyes : (m.f0 == p && !m.f5) = true := by rw [hg5, hp]; simp
            have hm' : (⟨m.f0, m.f1, m.f2, m.f3, m.f4, false⟩ : S42) = m := by rw [← hg5]
            rw [if_pos hyes] at hlc
            rw [if_pos (by simp), hm']
            cases hbb : b with
            | nil =>
              subst hbb
              rw [if_neg (by simp), if_pos (by simp), w64 (by omega)]
              refine of_l0 h p hm j k _ (by omega) ?_ ?_ (by simp) (by omega)
              · rw [hlc, ← hb]
                rfl
              · intro x hx y hy
                simp at hx hy
                rw [hx, hy]
            | cons d t =>
              have hd0 : rd_T42 (d :: t) 0 = d := rfl
              have hl0 : ((d :: t).length : Int) > 0 := by simp
              rw [if_pos hl0, if_pos hl0, hd0]
              rw [hbb] at hs h4
              by_cases he : d.f1 = m.f1
              · rw [if_pos he, if_pos (by omega), w64 (by omega)]
                refine of_l0 h p hm j k _ (by omega) ?_ ?_ (by rw [List.length_append, List.length_singleton]; omega) (by omega)
                · rw [hlc, ← hb, hbb, List.reverse_append]
                  rfl
                · have e1 : ∀ x ∈ (d :: t) ++ [m], x.f1 = d.f1 := fun x hx => by
                    rcases List.mem_append.1 hx with hx | hx
                    · exact hs x hx d (List.mem_cons_self ..)
                    · simp at hx; rw [hx, he]
                  exact fun x hx y hy => (e1 x hx).trans (e1 y hy).symm
              · rw [if_neg he]
                obtain ⟨k, rfl⟩ : ∃ k', k = k' + 1 := ⟨k - 1, by omega⟩
                rw [leatref21_Of.l0, if_neg (by omega), of_done h p _ _ _ (by omega) (by omega)]
                unfold remS
                rw [live_split h j p, rem_ahead S42.f1 _ (.inl ⟨d, ?_, m, ?_, he⟩), hlc, rem_neg, hself, hbb]
                · rintro ⟨h1, _⟩
                  exact he (h1 d (by rw [← hb, hbb]; simp))
                · rw [hlc, ← hb, hbb]; simp
                · rw [hlc]; exact List.mem_cons_self ..
        · rw [if_neg hp, leatref21_Of.j2, if_neg (by simp)]
          exact hno (by simp [hp])
      · rw [decide_eq_false (show ¬ (b.length : Int) < 5 by omega), of_done h p b _ _ h5 (by omega)]
        unfold remS
        rw [live_split h (j + 1) p, rem_ahead S42.f1 _ (.inr (by omega)), hself]
/-- Of. -/
theorem of_f (h : List S42) (p : Int) (k : Nat) (hm : h.length ≤ 4611686018427387904) (hk : 3 * h.length + 20 ≤ k) : leatref21_Of.f k h p = some (remS h p) := by
  unfold leatref21_Of.f
  rw [w64 (by omega)]
  exact of_l0 h p hm h.length k [] (Nat.le_refl _) (by simp [live]) (fun x hx => by cases hx) (by simp) hk

theorem bad_f (p ep s c : Int) : leatref21_bad.f p ep s c = some (badI p ep s c) := by
  unfold leatref21_bad.f badI
  by_cases h1 : p = -1
  · subst h1; rfl
  · by_cases h2 : p < 0
    · rw [if_neg h1, if_pos h2, if_pos h2]; simp [h1]
    · rw [if_neg h1, if_neg h2, if_neg h2]
      by_cases h3 : ep < 0
      · rw [if_pos h3]; simp [h3]
      · by_cases h4 : s < 0
        · rw [if_neg h3, if_pos h4]; simp [h4]
        · by_cases h5 : c < 1
          · rw [if_neg h3, if_neg h4, if_pos h5]; simp [h5]
          · rw [if_neg h3, if_neg h4, if_neg h5]
            simp [h3, h4, h5]
end Go.Proofs.Ytnooekflmjebiaa
namespace Go.Proofs.Ytnooekflmjebiaa
open Go Go.RowKit Go.Proofs.YtnooekflmjebiaaW.PrintWords Go.Proofs.Ytnooekflmjebiaa.PIdemPlays
set_option linter.unusedVariables false

theorem judge_l0 (L : List S42) (hL : L.length ≤ 5) (s c q0 q1 q2 q3 q4 : Int) (q5 : Bool) : ∀ (i k : Nat), i ≤ L.length → i < k →
    leatref21_Judge.l0 k s c L ((i : Int) - 1) q0 q1 q2 q3 q4 q5 = match ((L.take i).map mkS).reverse.find? (fun k => k.seq == s && k.count == c) with
      | some y => some (y.base, true, 0)
      | none => if Int.tmod (wrap64 (wrap64 q2 + q3)) 2147483648 = wrap64 s then some (0, false, 0) else some (0, false, 211)
  | 0, 0, _, h => by omega
  | 0, k + 1, _, _ => by
    rw [leatref21_Judge.l0, if_neg (by omega)]
    rfl
  | i + 1, 0, _, h => by omega
  | i + 1, k + 1, hi, hk => by
    have hm : L[i]? = some L[i] := List.getElem?_eq_getElem (by omega)
    have e : ((i + 1 : Nat) : Int) - 1 = (i : Int) := by omega
    have ht : ((L.take (i + 1)).map mkS).reverse = mkS L[i] :: ((L.take i).map mkS).reverse := by
      rw [List.take_add_one, hm, List.map_append, List.reverse_append]
      rfl
    rw [leatref21_Judge.l0, e, rd_at hm, if_pos (by omega), if_pos (by omega), if_pos (by omega), w64 (by omega), judge_l0 L hL s c q0 q1 q2 q3 q4 q5 i k (by omega) (by omega), ht, List.find?_cons]
    by_cases h2 : L[i].f2 = s
    · by_cases h3 : L[i].f3 = c
      · rw [if_pos h2, if_pos h3, show ((mkS L[i]).seq == s && (mkS L[i]).count == c) = true by simp [mkS, h2, h3]]
        rfl
      · rw [if_pos h2, if_neg h3, show ((mkS L[i]).seq == s && (mkS L[i]).count == c) = false by simp [mkS, h3]]
    · rw [if_neg h2, show ((mkS L[i]).seq == s && (mkS L[i]).count == c) = false by simp [mkS, h2]]

/-- Judge. -/
theorem judge_f (h : List S42) (p ep s c : Int) (k : Nat) (hg' : GOK (hg h)) (hs : s ≤ 2147483647) (hm : h.length ≤ 4611686018427387904) (hk : 3 * h.length + 20 ≤ k) : leatref21_Judge.f k h p ep s c = some (judgeT (hg h) p ep s c) := by
  unfold leatref21_Judge.f judgeT
  rw [bad_f, Option.bind_some]
  cases hb : badI p ep s c with
  | true => simp
  | false =>
    rw [if_neg (by simp), if_neg (by simp), of_f h p k hm hk, Option.bind_some]
    obtain ⟨k, rfl⟩ : ∃ k', k = k' + 1 := ⟨k - 1, by omega⟩
    by_cases hp : p = -1
    · rw [if_pos hp, if_pos hp, leatref21_Judge.j0, if_pos rfl]
    · rw [if_neg hp, if_neg hp, leatref21_Judge.j0]
      have hOK := hg' p
      have hrem := rem_one S42.f1 (live h p)
      unfold hg at hOK ⊢
      change (∀ x ∈ remS h p, ∀ y ∈ remS h p, x.f1 = y.f1) ∧ (remS h p).length ≤ 5 ∧ _ at hrem
      cases hr : remS h p with
      | nil => rfl
      | cons m r =>
        rw [hr] at hOK hrem
        simp only at hOK
        obtain ⟨_, _, hOM⟩ := hOK _ rfl
        obtain ⟨l, hl⟩ : ∃ l, (m :: r)[r.length]? = some l := ⟨_, List.getElem?_eq_getElem (by simp)⟩
        have hlm : l ∈ m :: r := List.mem_of_getElem? hl
        have hle : l.f1 = m.f1 := hrem.1 l hlm m (List.mem_cons_self ..)
        have hlen : wrap64 (((m :: r).length : Int) - 1) = (r.length : Int) := by
          have := hrem.2.1
          rw [w64 (by omega), List.length_cons]
          omega
        have h5 := hrem.2.1
        rw [List.length_cons] at h5
        rw [hlen, rd_at hl, if_neg (by simp; omega), if_pos (by omega), if_pos (by rw [List.length_cons]; omega), hle]
        simp only [judgeM]
        by_cases h1 : ep < m.f1
        · rw [if_pos h1, if_pos h1]
        · by_cases h2 : ep > m.f1
          · rw [if_neg h1, if_neg h1, if_pos h2, if_pos h2]
            by_cases h3 : s = 0
            · rw [if_pos h3, if_neg (by simpa using h3)]
            · rw [if_neg h3, if_pos h3]
          · rw [if_neg h1, if_neg h1, if_neg h2, if_neg h2]
            have e : (r.length : Int) = (((r.length + 1 : Nat)) : Int) - 1 := by omega
            rw [e, judge_l0 (m :: r) hrem.2.1 s c _ _ _ _ _ _ (r.length + 1) k (by simp) (by omega), show (m :: r).take (r.length + 1) = m :: r from List.take_length (l := m :: r)]
            cases hf : ((m :: r).map mkS).reverse.find? (fun k => k.seq == s && k.count == c) with
            | some y => rfl
            | none =>
              have hlast : ((m :: r).map mkS).getLast? = some (mkS l) := by
                rw [List.getLast?_eq_getElem?, List.length_map, List.length_cons, Nat.add_sub_cancel, List.getElem?_map, hl]
                rfl
              rw [hlast]
              simp only
              obtain ⟨⟨a1, a2⟩, ⟨b1, b2⟩, _⟩ := hOM.2.2.2.2 (mkS l) (List.mem_map_of_mem hlm)
              simp only [mkS] at a1 a2 b1 b2
              obtain ⟨_, _, s0, _⟩ := badI_no hb hp
              have e1 : wrap64 (wrap64 l.f2 + l.f3) = l.f2 + l.f3 := by
                rw [w64 (n := l.f2) (by omega), w64 (by omega)]
              have e2 : wrap64 s = s := w64 (by omega)
              have e3 : Int.tmod (l.f2 + l.f3) 2147483648 = (l.f2 + l.f3) % 2147483648 := Int.tmod_eq_emod_of_nonneg (by omega)
              rw [e1, e2, e3]
              have e4 : (mkS l).next = (l.f2 + l.f3) % 2147483648 := rfl
              rw [e4]
              by_cases hx : (l.f2 + l.f3) % 2147483648 = s
              · rw [if_pos hx, if_neg (by simpa using hx)]
              · rw [if_neg hx, if_pos hx]

/-- Note. -/
def nh (h : List S42) (p ep s c base : Int) : List S42 × Int :=
  if badI p ep s c = true ∨ (0 ≤ p ∧ base < 0) then (h, 3) else if p = -1 then (h, 0) else (h ++ [⟨p, ep, s, c, base, false⟩], 0)
theorem nh_code (h : List S42) (p ep s c base : Int) : (nh h p ep s c base).2 = noteC p ep s c base := by
  unfold nh noteC
  split
  · rfl
  · split <;> rfl
theorem nh_hg (h : List S42) (p ep s c base : Int) : hg (nh h p ep s c base).1 = (noteT (hg h) p ep s c base).1 := by
  unfold nh noteT
  split
  · rfl
  · split
    · rfl
    · funext x
      exact hg_snoc h p ep s c base x
theorem note_l0 (h : List S42) (hm : h.length ≤ 3518437208000) (p ep s c base : Int) : ∀ (j k : Nat) (x6 : List S42), j ≤ h.length → x6 = h.take (h.length - j) → j < k →
    leatref21_Note.l0 k h x6 ((h.length - j : Nat) : Int) p ep s c base false = some (if p ≥ 0 then h ++ [⟨p, ep, s, c, base, false⟩] else h, 0)
  | _, 0, _, _, _, hk => by omega
  | 0, k + 1, x6, hj, h6, hk => by
    have e : x6 = h := by rw [h6]; exact List.take_length
    rw [leatref21_Note.l0, Nat.sub_zero, if_neg (by omega), e]
    split
    · rw [if_pos (by omega)]
    · rfl
  | j + 1, k + 1, x6, hj, h6, hk => by
    obtain ⟨i, hi⟩ : ∃ i, i = h.length - (j + 1) := ⟨_, rfl⟩
    have hmi : h[i]? = some h[i] := List.getElem?_eq_getElem (by omega)
    have hl6 : x6.length = i := by rw [h6, List.length_take]; omega
    rw [leatref21_Note.l0, ← hi, rd_at hmi, if_pos (by omega), if_pos (by omega), if_pos (by omega), w64 (by omega), show (i : Int) + 1 = ((h.length - j : Nat) : Int) by omega]
    refine note_l0 h hm p ep s c base j k _ (by omega) ?_ (by omega)
    rw [show h.length - j = i + 1 by omega, List.take_add_one, hmi, h6, ← hi]
    rfl
theorem note_f (h : List S42) (hm : h.length ≤ 3518437208000) (p ep s c base : Int) (k : Nat) (hk : h.length + 3 ≤ k) : leatref21_Note.f k h p ep s c base false = some (nh h p ep s c base) := by
  unfold leatref21_Note.f nh
  rw [bad_f, Option.bind_some]
  obtain ⟨k, rfl⟩ : ∃ k', k = k' + 1 := ⟨k - 1, by omega⟩
  have hl0 : leatref21_Note.l0 k h [] 0 p ep s c base false = some (if p ≥ 0 then h ++ [⟨p, ep, s, c, base, false⟩] else h, 0) := by
    have := note_l0 h hm p ep s c base h.length k [] (Nat.le_refl _) (by simp) (by omega)
    rw [Nat.sub_self] at this
    exact this
  cases hb : badI p ep s c with
  | true => rw [if_pos rfl, leatref21_Note.j0, if_pos rfl]; simp
  | false =>
    rw [if_neg (by simp)]
    by_cases hp : p ≥ 0
    · rw [if_pos hp]
      by_cases hbs : base < 0
      · rw [decide_eq_true hbs, leatref21_Note.j0, if_pos rfl, if_pos (.inr ⟨hp, hbs⟩)]
      · rw [decide_eq_false hbs, leatref21_Note.j0, if_neg (by simp), hl0, if_pos hp, if_neg (show ¬ (false = true ∨ (0 ≤ p ∧ base < 0)) by simp; omega), if_neg (by omega)]
    · rw [if_neg hp, leatref21_Note.j0, if_neg (by simp), hl0, if_neg hp, if_neg (show ¬ (false = true ∨ (0 ≤ p ∧ base < 0)) by simp; omega)]
      have hp1 : p = -1 := by
        unfold badI at hb
        rw [if_pos (by omega)] at hb
        simpa using hb
      rw [if_pos hp1]

/-- known. -/
theorem known_l0 (L : List S42) (hm : L.length ≤ 5) (p e : Int) (hL : ∀ x ∈ L, x.f0 = p ∧ x.f1 = e) : ∀ (j k : Nat) (a b : Int), j ≤ L.length → j < k → (j < L.length → a = p ∧ b = e) ∨ True →
    ((j = 0 → a = p ∧ b = e)) → leatref21_known.l0 k L ((L.length - j : Nat) : Int) a b ((L.take (L.length - j)).map S42.f2) ((L.take (L.length - j)).map S42.f3) ((L.take (L.length - j)).map S42.f4) = some (p, e, L.map S42.f2, L.map S42.f3, L.map S42.f4)
  | _, 0, _, _, _, hk, _, _ => by omega
  | 0, k + 1, a, b, hj, hk, _, h0 => by
    obtain ⟨rfl, rfl⟩ := h0 rfl
    rw [leatref21_known.l0, Nat.sub_zero, if_neg (by omega), List.take_length]
  | j + 1, k + 1, a, b, hj, hk, _, h0 => by
    obtain ⟨i, hi⟩ : ∃ i, i = L.length - (j + 1) := ⟨_, rfl⟩
    have hmi : L[i]? = some L[i] := List.getElem?_eq_getElem (by omega)
    have hme := hL L[i] (List.getElem_mem _)
    have ht : ∀ f : S42 → Int, (L.take i).map f ++ [f L[i]] = (L.take (L.length - j)).map f := fun f => by
      rw [show L.length - j = i + 1 by omega, List.take_add_one, hmi, List.map_append]
      rfl
    have hlt : ∀ f : S42 → Int, ((L.take i).map f).length = i := fun f => by rw [List.length_map, List.length_take]; omega
    rw [leatref21_known.l0, ← hi, rd_at hmi, if_pos (by omega), if_pos (by omega), hlt, hlt, hlt, if_pos (by omega), if_pos (by omega), if_pos (by omega), w64 (by omega), show (i : Int) + 1 = ((L.length - j : Nat) : Int) by omega, ht S42.f2, ht S42.f3, ht S42.f4]
    exact known_l0 L hm p e hL j k _ _ (by omega) (by omega) (.inr trivial) (fun _ => hme)
theorem known_f (L : List S42) (hm : L.length ≤ 5) (p e : Int) (hL : ∀ x ∈ L, x.f0 = p ∧ x.f1 = e) (hn : L ≠ []) (k : Nat) (hk : 6 ≤ k) : leatref21_known.f k L = some (p, e, L.map S42.f2, L.map S42.f3, L.map S42.f4) := by
  unfold leatref21_known.f
  have := known_l0 L hm p e hL L.length k 0 0 (Nat.le_refl _) (by omega) (.inr trivial) (fun h => absurd (List.length_eq_zero_iff.1 h) hn)
  rw [Nat.sub_self] at this
  exact this
end Go.Proofs.Ytnooekflmjebiaa
namespace Go.Proofs.Ytnooekflmjebiaa
open Go Go.RowKit Go.Proofs.YtnooekflmjebiaaW.PrintWords Go.Proofs.Ytnooekflmjebiaa.PIdemPlays
set_option linter.unusedVariables false

theorem hg_some (h : List S42) (p : Int) : (hg h p).isSome = true ↔ 0 < (remS h p).length := by
  unfold hg
  cases remS h p with
  | nil => simp
  | cons m r => simp
theorem hg_in {h : List S42} {p : Int} (hs : (hg h p).isSome = true) : ∃ m ∈ h, m.f0 = p := by
  have h1 := (hg_some h p).1 hs
  obtain ⟨m, hm⟩ := List.exists_mem_of_length_pos h1
  have h2 := (rem_one S42.f1 (live h p)).2.2.2 m hm
  obtain ⟨h3, h4⟩ := List.mem_filter.1 h2
  exact ⟨m, h3, by simpa using (Bool.and_eq_true_iff.1 h4).1⟩
theorem known_hg {h : List S42} {p : Int} (hs : (hg h p).isSome = true) (k : Nat) (hk : 6 ≤ k) : leatref21_known.f k (remS h p) = some ((kn (hg h) p).f0, (kn (hg h) p).f1, (kn (hg h) p).f2, (kn (hg h) p).f3, (kn (hg h) p).f4) := by
  have h1 := (hg_some h p).1 hs
  have hr := rem_one S42.f1 (live h p)
  unfold kn hg
  cases hc : remS h p with
  | nil => rw [hc] at h1; simp at h1
  | cons m r =>
    have hc' : rem S42.f1 (live h p) = m :: r := hc
    rw [hc'] at hr
    rw [known_f (m :: r) hr.2.1 p m.f1 (fun x hx => ⟨?_, hr.1 x hx m (List.mem_cons_self ..)⟩) (by simp) k hk]
    · simp [List.map_map, Function.comp_def, mkS]
    · have := (List.mem_filter.1 (hr.2.2.2 x hx)).2
      simpa using (Bool.and_eq_true_iff.1 this).1

/-- The least that has been met. -/
def LInv (h : List S42) (last : Int) (i : Nat) (least : Int) : Prop :=
  (least = -1 ∧ ∀ m ∈ h.take i, last < m.f0 → (hg h m.f0).isSome = true → False) ∨ (0 ≤ least ∧ last < least ∧ (hg h least).isSome = true ∧ ∀ m ∈ h.take i, last < m.f0 → (hg h m.f0).isSome = true → least ≤ m.f0)
theorem all_l1 (h : List S42) (hm : h.length ≤ 1000000000) (hp : ∀ m ∈ h, 0 ≤ m.f0) (out : List S52) (last kk : Int) : ∀ (e k : Nat) (least : Int), e ≤ h.length → 3 * h.length + 20 ≤ k → LInv h last (h.length - e) least →
    ∃ least', LInv h last h.length least' ∧ leatref21_All.l1 (k + e) h out last kk least ((h.length - e : Nat) : Int) = leatref21_All.l1 k h out last kk least' (h.length : Int)
  | 0, k, least, _, _, hI => ⟨least, hI, rfl⟩
  | e + 1, k, least, he, hk, hI => by
    obtain ⟨i, hi⟩ : ∃ i, i = h.length - (e + 1) := ⟨_, rfl⟩
    have hmi : h[i]? = some h[i] := List.getElem?_eq_getElem (by omega)
    have hin : h[i] ∈ h := List.getElem_mem _
    generalize h[i] = m at hmi hin
    have hp0 := hp m hin
    have hcast : (i : Int) + 1 = ((h.length - e : Nat) : Int) := by omega
    have htk : h.take (h.length - e) = h.take i ++ [m] := by
      rw [show h.length - e = i + 1 by omega, List.take_add_one, hmi]
      rfl
    have hof : leatref21_Of.f (k + e) h m.f0 = some (remS h m.f0) := of_f h m.f0 _ (by omega) (by omega)
    have next : ∀ least', LInv h last (h.length - e) least' → ∃ l2, LInv h last h.length l2 ∧ leatref21_All.l1 (k + e) h out last kk least' (wrap64 ((i : Int) + 1)) = leatref21_All.l1 k h out last kk l2 (h.length : Int) := fun least' h' => by
      rw [w64 (by omega), hcast]
      exact all_l1 h hm hp out last kk e k least' (by omega) hk h'
    rw [← hi] at hI ⊢
    rw [show k + (e + 1) = (k + e) + 1 by omega, leatref21_All.l1, rd_at hmi, if_pos (by omega), if_pos (by omega)]
    have stay : (last < m.f0 → (hg h m.f0).isSome = true → 0 ≤ least ∧ least ≤ m.f0) → LInv h last (h.length - e) least := fun hc => by
      rw [LInv, htk]
      rcases hI with ⟨h1, h2⟩ | ⟨h1, h2, h3, h4⟩
      · refine .inl ⟨h1, fun x hx hl hs => ?_⟩
        rcases List.mem_append.1 hx with hx | hx
        · exact h2 x hx hl hs
        · simp at hx; subst hx; have := hc hl hs; omega
      · refine .inr ⟨h1, h2, h3, fun x hx hl hs => ?_⟩
        rcases List.mem_append.1 hx with hx | hx
        · exact h4 x hx hl hs
        · simp at hx; subst hx; exact (hc hl hs).2
    have take_ : last < m.f0 → (hg h m.f0).isSome = true → (least < 0 ∨ m.f0 < least) → LInv h last (h.length - e) m.f0 := fun hl hs hc => by
      rw [LInv, htk]
      refine .inr ⟨hp0, hl, hs, fun x hx hl' hs' => ?_⟩
      rcases List.mem_append.1 hx with hx | hx
      · rcases hI with ⟨h1, h2⟩ | ⟨h1, h2, h3, h4⟩
        · exact absurd hs' (fun hs' => h2 x hx hl' hs')
        · have := h4 x hx hl' hs'; omega
      · simp at hx; subst hx; exact Int.le_refl _
    by_cases hl : m.f0 > last
    · rw [if_pos hl]
      by_cases hneg : least < 0
      · rw [if_pos hneg, hof, Option.bind_some]
        by_cases hs : ((remS h m.f0).length : Int) > 0
        · rw [if_pos hs]
          exact next _ (take_ hl ((hg_some h m.f0).2 (by omega)) (.inl hneg))
        · rw [if_neg hs]
          exact next _ (stay fun _ hh => absurd ((hg_some h m.f0).1 hh) (by omega))
      · rw [if_neg hneg]
        by_cases hlt : m.f0 < least
        · rw [if_pos hlt, hof, Option.bind_some]
          by_cases hs : ((remS h m.f0).length : Int) > 0
          · rw [if_pos hs]
            exact next _ (take_ hl ((hg_some h m.f0).2 (by omega)) (.inr hlt))
          · rw [if_neg hs]
            exact next _ (stay fun _ hh => absurd ((hg_some h m.f0).1 hh) (by omega))
        · rw [if_neg hlt]
          exact next _ (stay fun _ _ => ⟨by omega, by omega⟩)
    · rw [if_neg hl]
      exact next _ (stay fun hh _ => absurd hh (by omega))

theorem all_l0 (h : List S42) (hm : h.length ≤ 1000000000) (hp : ∀ m ∈ h, 0 ≤ m.f0) : ∀ (K2 K1 : List Int) (last : Int) (k : Nat), Asc (K1 ++ K2) → (∀ x, x ∈ K1 ++ K2 ↔ (hg h x).isSome = true) → (K1 ++ K2).length ≤ h.length → (∀ x ∈ K1, x ≤ last) → (∀ x ∈ K2, last < x) →
    K2.length * (h.length + 2) + h.length + 3 * h.length + 40 ≤ k → leatref21_All.l0 k h (K1.map (kn (hg h))) last (K1.length : Int) = some ((K1 ++ K2).map (kn (hg h)))
  | [], K1, last, k, ha, hmem, hlen, h1, h2, hk => by
    rw [List.append_nil] at hmem hlen ⊢
    obtain ⟨k, rfl⟩ : ∃ k', k = k' + h.length + 1 := ⟨k - h.length - 1, by omega⟩
    rw [leatref21_All.l0, if_pos (by omega)]
    obtain ⟨l2, hI, he⟩ := all_l1 h hm hp (K1.map (kn (hg h))) last (K1.length : Int) h.length k (-1) (Nat.le_refl _) (by omega) (.inl ⟨rfl, fun m hx => by simp at hx⟩)
    rw [Nat.sub_self] at he
    refine he.trans ?_
    obtain ⟨k, rfl⟩ : ∃ k', k = k' + 1 := ⟨k - 1, by omega⟩
    rw [leatref21_All.l1, if_neg (by omega)]
    rcases hI with ⟨rfl, _⟩ | ⟨g1, g2, g3, _⟩
    · rw [if_pos (by omega)]
    · have := h1 l2 ((hmem l2).2 g3)
      omega
  | x :: K2, K1, last, k, ha, hmem, hlen, h1, h2, hk => by
    rw [List.length_cons, Nat.succ_mul] at hk
    obtain ⟨k, rfl⟩ : ∃ k', k = k' + h.length + 1 := ⟨k - h.length - 1, by omega⟩
    have hxs : (hg h x).isSome = true := (hmem x).1 (by simp)
    rw [List.length_append, List.length_cons] at hlen
    rw [leatref21_All.l0, if_pos (by omega)]
    obtain ⟨l2, hI, he⟩ := all_l1 h hm hp (K1.map (kn (hg h))) last (K1.length : Int) h.length k (-1) (Nat.le_refl _) (by omega) (.inl ⟨rfl, fun m hx => by simp at hx⟩)
    rw [Nat.sub_self] at he
    refine he.trans ?_
    obtain ⟨k, rfl⟩ : ∃ k', k = k' + 1 := ⟨k - 1, by omega⟩
    obtain ⟨mx, hmx, hmx0⟩ := hg_in hxs
    have hlx := h2 x (List.mem_cons_self ..)
    rw [leatref21_All.l1, if_neg (by omega)]
    rcases hI with ⟨rfl, g⟩ | ⟨g1, g2, g3, g4⟩
    · exact absurd (g mx (by rw [List.take_length]; exact hmx) (by omega) (by rw [hmx0]; exact hxs)) (fun h => h)
    · have hle := g4 mx (by rw [List.take_length]; exact hmx) (by omega) (by rw [hmx0]; exact hxs)
      have hl2 : l2 = x := by
        have hin := (hmem l2).2 g3
        rcases List.mem_append.1 hin with hin | hin
        · have := h1 l2 hin; omega
        · rcases List.mem_cons.1 hin with rfl | hin
          · rfl
          · have hp2 := List.pairwise_append.1 ha
            have hlt : x < l2 := (List.pairwise_cons.1 hp2.2.1).1 l2 hin
            omega
      subst hl2
      rw [if_neg (by omega), of_f h l2 k (by omega) (by omega), Option.bind_some, known_hg hxs k (by omega), Option.bind_some, if_pos (by rw [List.length_map]; omega), w64 (by omega)]
      have hk1 : K1.map (kn (hg h)) ++ [kn (hg h) l2] = (K1 ++ [l2]).map (kn (hg h)) := by rw [List.map_append]; rfl
      have hkl : (K1.length : Int) + 1 = ((K1 ++ [l2]).length : Int) := by rw [List.length_append, List.length_singleton]; omega
      have hkk : K1 ++ l2 :: K2 = (K1 ++ [l2]) ++ K2 := by simp
      rw [hkk] at ha hmem ⊢
      show leatref21_All.l0 k h (K1.map (kn (hg h)) ++ [kn (hg h) l2]) l2 ((K1.length : Int) + 1) = _
      rw [hk1, hkl]
      refine all_l0 h hm hp K2 (K1 ++ [l2]) l2 k ha hmem (by simp; omega) (fun y hy => ?_) (fun y hy => ?_) (by omega)
      · rcases List.mem_append.1 hy with hy | hy
        · have := h1 y hy; omega
        · simp at hy; omega
      · have hp2 := List.pairwise_append.1 ha
        exact hp2.2.2 l2 (by simp) y hy
/-- All. -/
theorem all_f (h : List S42) (hm : h.length ≤ 1000000000) (hp : ∀ m ∈ h, 0 ≤ m.f0) (ks : List Int) (ha : Asc ks) (hmem : ∀ x, x ∈ ks ↔ (hg h x).isSome = true) (hlen : ks.length ≤ h.length) : ∃ k, leatref21_All.f k h = some (ks.map (kn (hg h))) := by
  refine ⟨ks.length * (h.length + 2) + h.length + 3 * h.length + 40, ?_⟩
  unfold leatref21_All.f
  refine all_l0 h hm hp ks [] (-1) _ ha hmem hlen (fun x hx => by cases hx) (fun x hx => ?_) (Nat.le_refl _)
  obtain ⟨m, hm1, rfl⟩ := hg_in ((hmem x).1 hx)
  have := hp m hm1
  omega
end Go.Proofs.Ytnooekflmjebiaa
