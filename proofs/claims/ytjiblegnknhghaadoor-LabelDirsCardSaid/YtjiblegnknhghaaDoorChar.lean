/- The walks of the document's within, Char and Utf: Utf answers the first place at which no character begins. -/
import Derived.Test.YtjiblegnknhghaaDoorUtf
namespace Go.Proofs.YtjiblegnknhghaaDoor
open Go Go.RowKit

theorem RB.bat {w : World} {A : Option Addr} {s : ByteArray} (h : RB w A s) {i : Nat} (hi : i < s.size) :
    ∃ a, A = some a ∧ w.cell? (a.add i) = some (.int .u8 ((bat s i : Nat) : Int)) := h.cell hi

theorem within_out (A : Option Addr) (c : Nat) (s : ByteArray) (i : Nat) (lo hi : Int) (w : World) (h : ¬ i < s.size) :
    Calls Tryd.prog 77 #[.slice A s.size c, .int .i64 i, .int .u8 lo, .int .u8 hi] w fun e w' => e = .returned (.bool false) ∧ w = w' := by
  have h1 : decide (i < s.size) = false := by simp; omega
  go_enter Tryd.func77, Tryd.ntmps77
  go_wp2
  go_ret
  exact ⟨rfl, rfl⟩

theorem within_in (A : Option Addr) (c : Nat) (s : ByteArray) (i : Nat) (lo hi : Int) (w : World) (hs : RB w A s) (h : i < s.size) :
    Calls Tryd.prog 77 #[.slice A s.size c, .int .i64 i, .int .u8 lo, .int .u8 hi] w fun e w' => e = .returned (.bool (decide (lo ≤ (bat s i : Nat)) && decide ((bat s i : Nat) ≤ hi))) ∧ w = w' := by
  obtain ⟨a, rfl, hc⟩ := hs.bat h
  clear hs
  have h1 : decide (i < s.size) = true := by simp; omega
  by_cases h2 : lo ≤ (bat s i : Nat)
  · have h3 : decide (lo ≤ (bat s i : Nat)) = true := by simpa using h2
    go_enter Tryd.func77, Tryd.ntmps77
    go_wp2
    go_ret
    exact ⟨by first | rfl | (rw [h3]; rfl), rfl⟩
  · have h3 : decide (lo ≤ (bat s i : Nat)) = false := by simpa using h2
    go_enter Tryd.func77, Tryd.ntmps77
    go_wp2
    go_ret
    exact ⟨by first | rfl | (rw [h3]; rfl), rfl⟩

theorem within_at (A : Option Addr) (c : Nat) (s : ByteArray) (i lo hi : Nat) (i' lo' hi' : Int) (w : World) (hs : RB w A s) (e1 : i' = i) (e2 : lo' = lo) (e3 : hi' = hi) (r : Bool) (hr : win (decide (i < s.size)) (bat s i) lo hi = r) :
    Calls Tryd.prog 77 #[.slice A s.size c, .int .i64 i', .int .u8 lo', .int .u8 hi'] w fun e w' => e = .returned (.bool r) ∧ w = w' := by
  subst e1 e2 e3 hr
  by_cases h : i < s.size
  · refine (within_in A c s i lo hi w hs h).mono fun e w' ⟨he, hw⟩ => ⟨?_, hw⟩
    rw [he]
    simp [win, h]
  · refine (within_out A c s i lo hi w h).mono fun e w' ⟨he, hw⟩ => ⟨?_, hw⟩
    rw [he]
    simp [win, h]

/-- One class of the first byte: the walk with every test of it decided. -/
def CharPost (s : ByteArray) (i n : Nat) (w : World) (e : Ending) (w' : World) : Prop :=
  e = .returned (.int .i64 ((chrN n (bat s (i + 1)) (bat s (i + 2)) (bat s (i + 3)) (decide (i + 1 < s.size)) (decide (i + 2 < s.size)) (decide (i + 3 < s.size)) : Nat) : Int)) ∧ w = w'

theorem chr_one (b c d : Nat) (x y z : Bool) (n : Nat) (h : n < 128) : chrN n b c d x y z = 1 := by unfold chrN; rw [if_pos h]
theorem chr_no (b c d : Nat) (x y z : Bool) (n : Nat) (h0 : 128 ≤ n) (h : n < 194 ∨ 244 < n) : chrN n b c d x y z = 0 := by
  unfold chrN; rw [if_neg (by omega)]
  rcases h with h | h
  · rw [if_pos h]
  · rw [if_neg (by omega), if_pos h]
theorem chr_more (b c d : Nat) (x y z : Bool) (n : Nat) (h0 : 194 ≤ n) (h : n ≤ 244) : chrN n b c d x y z =
    if win x b (loOf n) (hiOf n) = false then 0 else if n < 224 then 2 else if win y c 128 191 = false then 0 else if n < 240 then 3 else if win z d 128 191 = false then 0 else 4 := by
  unfold chrN; rw [if_neg (by omega), if_neg (by omega), if_neg (by omega)]

set_option maxRecDepth 100000 in
set_option maxHeartbeats 400000 in
theorem char_one (a : Addr) (c : Nat) (s : ByteArray) (i n : Nat) (w : World) (h : i < s.size) (hc : w.cell? (a.add i) = some (.int .u8 (n : Int))) (hn : n < 128) :
    Calls Tryd.prog 57 #[.slice (some a) s.size c, .int .i64 i] w (CharPost s i n w) := by
  have HN := Lib.hid (chr_one (bat s (i + 1)) (bat s (i + 2)) (bat s (i + 3)) (decide (i + 1 < s.size)) (decide (i + 2 < s.size)) (decide (i + 3 < s.size)) n hn)
  have h1 : decide (s.size ≤ i) = false := by simp; omega
  go_enter Tryd.func57, Tryd.ntmps57
  go_wp2_with fail
  go_ret
  refine ⟨?_, rfl⟩
  rw [HN.out]
  rfl

set_option maxRecDepth 100000 in
set_option maxHeartbeats 400000 in
theorem char_no (a : Addr) (c : Nat) (s : ByteArray) (i n : Nat) (w : World) (h : i < s.size) (hc : w.cell? (a.add i) = some (.int .u8 (n : Int))) (hn0 : 128 ≤ n) (hn : n < 194 ∨ 244 < n) :
    Calls Tryd.prog 57 #[.slice (some a) s.size c, .int .i64 i] w (CharPost s i n w) := by
  have HN := Lib.hid (chr_no (bat s (i + 1)) (bat s (i + 2)) (bat s (i + 3)) (decide (i + 1 < s.size)) (decide (i + 2 < s.size)) (decide (i + 3 < s.size)) n hn0 hn)
  have h1 : decide (s.size ≤ i) = false := by simp; omega
  rcases hn with hn | hn
  · go_enter Tryd.func57, Tryd.ntmps57
    go_wp2_with fail
    go_ret
    refine ⟨?_, rfl⟩
    rw [HN.out]
    rfl
  · go_enter Tryd.func57, Tryd.ntmps57
    go_wp2_with fail
    go_ret
    refine ⟨?_, rfl⟩
    rw [HN.out]
    rfl


section more
variable (a : Addr) (c : Nat) (s : ByteArray) (i n : Nat) (w : World) (hs : RB w (some a) s) (h : i < s.size) (hm : s.size ≤ 140737488351232) (hc : w.cell? (a.add i) = some (.int .u8 (n : Int)))
include hs h hm hc
set_option maxRecDepth 100000 in
set_option maxHeartbeats 400000 in
theorem char_two (hn0 : 194 ≤ n) (hn : n < 224) (r : Bool) (hr : win (decide (i + 1 < s.size)) (bat s (i + 1)) 128 191 = r) :
    Calls Tryd.prog 57 #[.slice (some a) s.size c, .int .i64 i] w fun e w' => e = .returned (.int .i64 (if r then 2 else 0)) ∧ w = w' := by
  have HS := Lib.hid hs
  have HR := Lib.hid hr
  clear hs hr
  have h1 : decide (s.size ≤ i) = false := by simp; omega
  cases r
  all_goals
    go_enter Tryd.func57, Tryd.ntmps57
    go_wp2_with fail
    refine (within_at _ _ _ (i + 1) 128 191 _ _ _ _ HS.out (by omega) (by omega) (by omega) _ HR.out).mono ?_
    rintro e w' ⟨rfl, rfl⟩
    go_wp2_with fail
    go_ret
    exact ⟨rfl, rfl⟩

def three (r1 r2 : Bool) : Int := if r1 then (if r2 then 3 else 0) else 0

set_option maxRecDepth 100000 in
set_option maxHeartbeats 1000000 in
theorem char_three (hn0 : 224 ≤ n) (hn : n < 240) (r1 r2 : Bool) (hr1 : win (decide (i + 1 < s.size)) (bat s (i + 1)) (loOf n) (hiOf n) = r1) (hr2 : win (decide (i + 2 < s.size)) (bat s (i + 2)) 128 191 = r2) :
    Calls Tryd.prog 57 #[.slice (some a) s.size c, .int .i64 i] w fun e w' => e = .returned (.int .i64 (three r1 r2)) ∧ w = w' := by
  have HS := Lib.hid hs
  have HR2 := Lib.hid hr2
  clear hs hr2
  have h1 : decide (s.size ≤ i) = false := by simp; omega
  have hcase : n = 224 ∨ n = 237 ∨ ((225 ≤ n ∧ n ≤ 236) ∨ (238 ≤ n ∧ n ≤ 239)) := by omega
  have hlf := lo_facts n
  have hhf := hi_facts n
  obtain ⟨lo, hi, hlo, hhi, hl, hh⟩ : ∃ lo hi, loOf n = lo ∧ hiOf n = hi ∧ (lo = if n = 224 then 160 else 128) ∧ (hi = if n = 237 then 159 else 191) :=
    ⟨_, _, rfl, rfl, by split <;> omega, by split <;> omega⟩
  rw [hlo, hhi] at hr1
  have HR1 := Lib.hid hr1
  clear hr1 hlf hhf hlo hhi
  rcases hcase with rfl | rfl | (hca | hca)
  all_goals
    (first | rw [if_pos rfl] at hl | rw [if_neg (by omega)] at hl)
    (first | rw [if_pos rfl] at hh | rw [if_neg (by omega)] at hh)
    subst hl hh
    try obtain ⟨hca, hcb⟩ := hca
    cases r1
  all_goals
    go_enter Tryd.func57, Tryd.ntmps57
    go_wp2_with fail
    refine (within_at _ _ _ (i + 1) _ _ _ _ _ _ HS.out (by omega) (by omega) (by omega) _ HR1.out).mono ?_
    rintro e w' ⟨rfl, rfl⟩
    go_wp2_with fail
    first
      | (go_ret
         exact ⟨rfl, rfl⟩)
      | (refine (within_at _ _ _ (i + 2) 128 191 _ _ _ _ HS.out (by omega) (by omega) (by omega) _ HR2.out).mono ?_
         rintro e w' ⟨rfl, rfl⟩
         cases r2
         all_goals
           go_wp2_with fail
           go_ret
           exact ⟨rfl, rfl⟩)

def four (r1 r2 r3 : Bool) : Int := if r1 then (if r2 then (if r3 then 4 else 0) else 0) else 0

set_option maxRecDepth 100000 in
set_option maxHeartbeats 2000000 in
theorem char_four (hn0 : 240 ≤ n) (hn : n ≤ 244) (r1 r2 r3 : Bool) (hr1 : win (decide (i + 1 < s.size)) (bat s (i + 1)) (loOf n) (hiOf n) = r1) (hr2 : win (decide (i + 2 < s.size)) (bat s (i + 2)) 128 191 = r2)
    (hr3 : win (decide (i + 3 < s.size)) (bat s (i + 3)) 128 191 = r3) :
    Calls Tryd.prog 57 #[.slice (some a) s.size c, .int .i64 i] w fun e w' => e = .returned (.int .i64 (four r1 r2 r3)) ∧ w = w' := by
  have HS := Lib.hid hs
  have HR2 := Lib.hid hr2
  have HR3 := Lib.hid hr3
  clear hs hr2 hr3
  have h1 : decide (s.size ≤ i) = false := by simp; omega
  have hcase : n = 240 ∨ n = 244 ∨ (241 ≤ n ∧ n ≤ 243) := by omega
  have hlf := lo_facts n
  have hhf := hi_facts n
  obtain ⟨lo, hi, hlo, hhi, hl, hh⟩ : ∃ lo hi, loOf n = lo ∧ hiOf n = hi ∧ (lo = if n = 240 then 144 else 128) ∧ (hi = if n = 244 then 143 else 191) :=
    ⟨_, _, rfl, rfl, by split <;> omega, by split <;> omega⟩
  rw [hlo, hhi] at hr1
  have HR1 := Lib.hid hr1
  clear hr1 hlf hhf hlo hhi
  rcases hcase with rfl | rfl | ⟨hca, hcb⟩
  all_goals
    (first | rw [if_pos rfl] at hl | rw [if_neg (by omega)] at hl)
    (first | rw [if_pos rfl] at hh | rw [if_neg (by omega)] at hh)
    subst hl hh
    cases r1
  all_goals
    go_enter Tryd.func57, Tryd.ntmps57
    go_wp2_with fail
    refine (within_at _ _ _ (i + 1) _ _ _ _ _ _ HS.out (by omega) (by omega) (by omega) _ HR1.out).mono ?_
    rintro e w' ⟨rfl, rfl⟩
    go_wp2_with fail
    first
      | (go_ret
         exact ⟨rfl, rfl⟩)
      | (refine (within_at _ _ _ (i + 2) 128 191 _ _ _ _ HS.out (by omega) (by omega) (by omega) _ HR2.out).mono ?_
         rintro e w' ⟨rfl, rfl⟩
         cases r2
         · go_wp2_with fail
           go_ret
           exact ⟨rfl, rfl⟩
         · go_wp2_with fail
           refine (within_at _ _ _ (i + 3) 128 191 _ _ _ _ HS.out (by omega) (by omega) (by omega) _ HR3.out).mono ?_
           rintro e w' ⟨rfl, rfl⟩
           cases r3
           all_goals
             go_wp2_with fail
             go_ret
             exact ⟨rfl, rfl⟩)
end more

theorem char_any (A : Option Addr) (c : Nat) (s : ByteArray) (i : Nat) (w : World) (hs : RB w A s) (h : i < s.size) (hm : s.size ≤ 140737488351232) :
    Calls Tryd.prog 57 #[.slice A s.size c, .int .i64 i] w fun e w' => e = .returned (.int .i64 ((chr s i : Nat) : Int)) ∧ w = w' := by
  obtain ⟨a, rfl, hc⟩ := hs.bat h
  have hb := bat_lt s i
  unfold chr
  by_cases h1 : bat s i < 128
  · exact char_one a c s i _ w h hc h1
  by_cases h2 : bat s i < 194 ∨ 244 < bat s i
  · exact char_no a c s i _ w h hc (by omega) h2
  rw [chr_more _ _ _ _ _ _ _ (by omega) (by omega)]
  by_cases h3 : bat s i < 224
  · have hl := lo_facts (bat s i)
    have hh := hi_facts (bat s i)
    have el : loOf (bat s i) = 128 := by omega
    have eh : hiOf (bat s i) = 191 := by omega
    rw [el, eh]
    refine (char_two a c s i _ w hs h hm hc (by omega) h3 _ rfl).mono fun e w' ⟨he, hw⟩ => ⟨?_, hw⟩
    rw [he]
    cases win (decide (i + 1 < s.size)) (bat s (i + 1)) 128 191 <;> simp [h3]
  by_cases h4 : bat s i < 240
  · refine (char_three a c s i _ w hs h hm hc (by omega) h4 _ _ rfl rfl).mono fun e w' ⟨he, hw⟩ => ⟨?_, hw⟩
    rw [he]
    cases win (decide (i + 1 < s.size)) (bat s (i + 1)) (loOf (bat s i)) (hiOf (bat s i)) <;> cases win (decide (i + 2 < s.size)) (bat s (i + 2)) 128 191 <;> simp [h3, h4, three]
  · refine (char_four a c s i _ w hs h hm hc (by omega) (by omega) _ _ _ rfl rfl rfl).mono fun e w' ⟨he, hw⟩ => ⟨?_, hw⟩
    rw [he]
    cases win (decide (i + 1 < s.size)) (bat s (i + 1)) (loOf (bat s i)) (hiOf (bat s i)) <;> cases win (decide (i + 2 < s.size)) (bat s (i + 2)) 128 191 <;> cases win (decide (i + 3 < s.size)) (bat s (i + 3)) 128 191 <;> simp [h3, h4, four]
end Go.Proofs.YtjiblegnknhghaaDoor
