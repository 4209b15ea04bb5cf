/- DiskMemory: contracts over things that lie apart. -/
import Derived.Test.YtkhopknpadncdaaDoR
import Derived.Test.YtkhopknpadncdaaApart
import Derived.Test.YtkhopknpadncdaaSep
namespace Go.Proofs.Ytkhopknpadncdaa
open Go Go.RowKit Go.Maps Go.Proofs.YtkhopknpadncdaaW.PrintWords Go.Proofs.Ytkhopknpadncdaa.PDiskMemory Go.Proofs.YtkhopknpadncdaaW.PrintMore
set_option linter.unusedVariables false

/-- The reference's disk. -/
def wantO (v0 v2 : Value) (F : List S94) : Lies where
  P := fun W S => WantP W S v0 v2 F
  lt := fun h => h.2.2
  keep := fun h hs hb => ⟨Kd.V_step h.1 (fun b ho _ => hb b ho.1), Kd.R_step h.2.1 (fun b ho _ => hb b ho), fun b h1 => Nat.lt_of_lt_of_le (h.2.2 b h1) hs⟩
/-- The reference's disk, and the one that it came from, which is only read. -/
def bothO (u0 : Value) (F0 : List S94) (v0 v2 : Value) (F : List S94) : Lies where
  P := fun W S => Kd.V kG 94 W 0 S u0 F0 ∧ WantP W S v0 v2 F
  lt := fun h => h.2.2.2
  keep := fun h hs hb => ⟨Kd.V_step h.1 (fun b ho _ => hb b ho), Kd.V_step h.2.1 (fun b ho _ => hb b ho.1), Kd.R_step h.2.2.1 (fun b ho _ => hb b ho), fun b h1 => Nat.lt_of_lt_of_le (h.2.2.2 b h1) hs⟩
/-- A block, whole. -/
def blkO (b : Nat) (cs : Array Value) (ty : TypeId) : Lies where
  P := fun W S => W.heap[b]? = some (.cells cs ty (0, 0)) ∧ S b ∧ ∀ k, S k → k < W.heap.size
  lt := fun h => h.2.2
  keep := fun h hs hb => ⟨(hb _ h.2.1).trans h.1, h.2.1, fun b h1 => Nat.lt_of_lt_of_le (h.2.2 b h1) hs⟩
abbrev filO (v : Value) (l : List SF) : Lies := rowsO k45 45 v l
abbrev bytO (v : Value) (l : List Int) : Lies := rowO (Kd.int .u8) 5 v l
abbrev lstO (v : Value) (l : List (List Int)) : Lies := rowsO kL 34 v l
section
variable {w W W' : World} {L : List Lies} {i j d N : Nat} {k : Dk} {v : Value}
theorem Sep.al (h : Sep w W L) (hi : L[i]? = some (diskO d k N)) : Al w W d k N := by
  obtain ⟨S, h1, h2⟩ := h.get hi
  exact ⟨S, h1, fun b hb => (h2 b hb).1, h.bl⟩
theorem Sep.fil {l : List SF} {A : Option Addr} {n c : Nat} (h : Sep w W L) (hi : L[i]? = some (filO (.slice A n c) l)) : k45.C W A n l ∧ n ≤ c := by
  obtain ⟨S, h1, _⟩ := h.get hi
  have h2 := Kd.S_reads' h1.1
  rw [h2.1]
  exact ⟨h2.2.2, h2.1 ▸ h2.2.1⟩
theorem Sep.byt {l : List Int} {A : Option Addr} {n c : Nat} (h : Sep w W L) (hi : L[i]? = some (bytO (.slice A n c) l)) : (Kd.int .u8).C W A n l ∧ n ≤ c := by
  obtain ⟨S, h1, _⟩ := h.get hi
  have h2 := Kd.R_reads' h1.1
  rw [h2.1]
  exact ⟨h2.2.2, h2.1 ▸ h2.2.1⟩
theorem Sep.blk {b : Nat} {cs : Array Value} {ty : TypeId} (h : Sep w W L) (hi : L[i]? = some (blkO b cs ty)) : W.heap[b]? = some (.cells cs ty (0, 0)) := by
  obtain ⟨S, h1, _⟩ := h.get hi
  exact h1.1
/-- A row that a call made. -/
theorem Sep.fil_new {l : List SF} (h : Sep w W L) (hb : Below W.heap.size W W') (hr : RF W' 0 (fun b => W.heap.size ≤ b) v l) : Sep w W' (L ++ [filO v l]) :=
  h.push (S := fun b => W.heap.size ≤ b ∧ b < W'.heap.size) (P := filO v l) hb ⟨Kd.S_mono (Kd.S_bound hr) (fun b hb => ⟨hb.1, hb.2.2.1⟩), fun b hb => hb.2⟩ (fun b hb => hb.1)
theorem Sep.fil_new' {l : List SF} (h : Sep w W L) (hb : Below W.heap.size W W') (hr : RF W' W.heap.size (fun _ => True) v l) : Sep w W' (L ++ [filO v l]) :=
  h.fil_new hb (Kd.S_mono (Kd.S_lower (Kd.S_bound hr) (Nat.zero_le _)) (fun b hb => hb.2.1))
theorem Sep.byt_new {l : List Int} (h : Sep w W L) (hb : Below W.heap.size W W') (hr : (Kd.int .u8).R 5 W' W.heap.size (fun _ => True) v l) : Sep w W' (L ++ [bytO v l]) :=
  h.push (S := fun b => W.heap.size ≤ b ∧ b < W'.heap.size) (P := bytO v l) hb ⟨Kd.R_mono (Kd.R_lower (Kd.R_bound hr) (Nat.zero_le _)) (fun b hb => ⟨hb.2.1, hb.2.2.1⟩), fun b hb => hb.2⟩ (fun b hb => hb.1)
theorem Sep.byt_new0 {l : List Int} (h : Sep w W L) (hb : Below W.heap.size W W') (hr : RB W' (fun b => W.heap.size ≤ b) v l) : Sep w W' (L ++ [bytO v l]) :=
  h.push (S := fun b => W.heap.size ≤ b ∧ b < W'.heap.size) (P := bytO v l) hb ⟨Kd.R_mono (Kd.R_bound hr) (fun b hb => ⟨hb.1, hb.2.2.1⟩), fun b hb => hb.2⟩ (fun b hb => hb.1)
theorem sp_files (h : Sep w W L) (hi : L[i]? = some (diskO d k N)) {G : List SF} (hG : filesD (·.seen) k = G) {M : Nat} (hM : G.length = M) :
    Calls Try.prog 19 #[.pointer (some ⟨d, 0, none⟩)] W fun e W' => ∃ A c, e = .returned (.slice A M c) ∧ Sep w W' (L ++ [filO (.slice A M c) G]) := by
  refine (al_files (h.al hi)).mono ?_
  rw [hG]
  rintro e W' ⟨v, rfl, hv, hb⟩
  obtain ⟨A, c, rfl⟩ := Kd.S_slice hv
  rw [← hM]
  exact ⟨A, c, rfl, h.fil_new hb hv⟩
theorem sp_safe (h : Sep w W L) (hi : L[i]? = some (diskO d k N)) {G : List SF} (hG : filesD (·.safe) k = G) {M : Nat} (hM : G.length = M) :
    Calls Try.prog 20 #[.pointer (some ⟨d, 0, none⟩)] W fun e W' => ∃ A c, e = .returned (.slice A M c) ∧ Sep w W' (L ++ [filO (.slice A M c) G]) := by
  refine (al_safe (h.al hi)).mono ?_
  rw [hG]
  rintro e W' ⟨v, rfl, hv, hb⟩
  obtain ⟨A, c, rfl⟩ := Kd.S_slice hv
  rw [← hM]
  exact ⟨A, c, rfl, h.fil_new hb hv⟩
/-- The append of a row that lies beside the disk. -/
theorem sp_append {l b : List Int} {A : Option Addr} {n c m : Nat} (h : Sep w W L) (hi : L[i]? = some (diskO d k N)) (hj : L[j]? = some (bytO (.slice A n c) l)) (hne : j ≠ i) (hN : N < 1000000000000) (s : ByteArray) (hs : s.size ≤ maxLen) (hm : m = b.length) (hb : l.take m = b) (hml : m ≤ n) (hB : Byt b) (hbl : m ≤ big)
    {K1 : Dk} {code : Int} (he : stepD (appendD b s.data.toList) (partD b s.data.toList) k = (K1, code)) :
    Calls Try.prog 10 #[.pointer (some ⟨d, 0, none⟩), .string s, .slice A m c] W fun e W' => e = .returned (.int .i64 code) ∧ Sep w W' (L.set i (diskO d K1 (N + 1))) := by
  obtain ⟨S, h1, h2, h3, h4⟩ := h.open hi
  obtain ⟨T, hT, hQ⟩ := h3 j _ hne hj
  have hn := (Kd.R_reads' hQ.1).1
  have hrow : ∀ W', Tch S W W' → (Kd.int .u8).C W' A m b := fun W' ht => by
    have h5 := Kd.R_take (m := m) (Kd.R_step hQ.1 (fun b hb hl => ht.block b hl (hT b hb).1)) (by omega)
    rw [hb] at h5
    have h6 := Kd.R_reads' h5
    rw [h6.1]
    exact h6.2.2
  have hmc : m ≤ c := Nat.le_trans hml (Kd.R_reads' hQ.1).2.1
  refine (append_any W d N S k s A m c b h1 hN hs hrow hB hbl hmc).mono ?_
  rintro e W' ⟨S', he2, hD, ht, hn2⟩
  rw [he] at he2 hD
  exact ⟨he2, h4 W' S' (diskO d K1 (N + 1)) ht hD hn2⟩
theorem sp_spoil {l : List Int} (h : Sep w W L) (hi : L[i]? = some (bytO v l)) : Calls Try.prog 15 #[v] W fun e W' => e = .returned (.tuple #[]) ∧ Sep w W' (L.set i (bytO v (l.map turn))) := by
  obtain ⟨S, h1, h2, h3, h4⟩ := h.open hi
  refine (spoil_any W S v l h1.1).mono ?_
  rintro e W' ⟨rfl, hr, hg, _⟩
  refine ⟨rfl, h4 W' S (bytO v (l.map turn)) (Tch.of_grown hg (fun k hk => h1.1.1 k hk)) ⟨hr, fun b hb => Nat.lt_of_lt_of_le (h1.2 b hb) hg.size⟩ (fun b hb => .inl hb)⟩
/-- Element j of a row of files, spoiled. -/
theorem sp_spoil_elem {fs : List SF} {f : SF} {A : Option Addr} {n c m : Nat} (h : Sep w W L) (hi : L[i]? = some (filO (.slice A n c) fs)) (hf : fs[m]? = some f) :
    ∃ g A1 c1, A = some ⟨g, 0, none⟩ ∧ W.cell? ⟨g, m * 2 + 1, none⟩ = some (.slice A1 f.f1.length c1) ∧
      Calls Try.prog 15 #[.slice A1 f.f1.length c1] W fun e W' => e = .returned (.tuple #[]) ∧ Sep w W' (L.set i (filO (.slice A n c) (fs.set m ⟨f.f0, f.f1.map turn⟩))) := by
  obtain ⟨S, h1, h2, h3, h4⟩ := h.open hi
  have hl := (List.getElem?_eq_some_iff.1 hf).1
  obtain ⟨g, cap, hv, _, hg, _⟩ := Kd.S_form h1.1 (by omega)
  obtain rfl : A = some ⟨g, 0, none⟩ := by injection hv
  obtain ⟨oki, cs, hcl, hM, hcc, hoki, hput⟩ := S_turn h1.1 f hf
  obtain ⟨v1, rfl, hv1⟩ := k45_openM hM
  obtain ⟨A1, c1, rfl⟩ := Kd.R_slice hv1
  refine ⟨g, A1, c1, rfl, hcc 1 _ rfl, ?_⟩
  refine (spoil_any W oki _ f.f1 hv1).mono ?_
  rintro e W' ⟨rfl, hr, hgr, _⟩
  have hrow : ∀ q, (Value.slice A1 f.f1.length c1).ownBlock = some q → oki q := fun q hq => hv1.1 q hq
  have hS2 := hput W' _ ⟨f.f0, f.f1.map turn⟩ hgr hrow (k45_mkM W' 0 oki ⟨f.f0, f.f1.map turn⟩ hr)
  exact ⟨rfl, h4 W' S (filO (.slice (some ⟨g, 0, none⟩) n c) (fs.set m ⟨f.f0, f.f1.map turn⟩)) (Tch.of_grown hgr (fun q hq => (hoki q (hrow q hq)).1)) ⟨hS2, fun b hb => Nat.lt_of_lt_of_le (h1.2 b hb) hgr.size⟩ (fun b hb => .inl hb)⟩
/-- Datas turns a row of files into its rows of bytes. -/
theorem sp_datas {l : List SF} {A : Option Addr} {n c : Nat} (h : Sep w W L) (hi : L[i]? = some (filO (.slice A n c) l)) (hl : l.length ≤ 5864062014804) : Calls Try.prog 24 #[.slice A n c] W fun e W' => ∃ A' c', e = .returned (.slice A' n c') ∧ Sep w W' (L.set i (lstO (.slice A' n c') (l.map (·.f1)))) := by
  obtain ⟨S, h1, h2, h3, h4⟩ := h.open hi
  have hn := (Kd.S_reads' h1.1).1
  refine (datas_any W S A n c l h1.1 hl).mono ?_
  rintro e W' ⟨v, rfl, hs, hb⟩
  obtain ⟨A', c', rfl⟩ := Kd.S_slice hs
  rw [List.length_map] at hs ⊢
  rw [hn]
  exact ⟨A', c', rfl, h4 W' (fun b => newer W S b ∧ b < W'.heap.size) (lstO (.slice A' l.length c') (l.map (·.f1))) (Tch.of_below hb) ⟨Kd.S_mono (Kd.S_bound hs) (fun b hb => ⟨hb.1, hb.2.2.1⟩), fun b hb => hb.2⟩ (fun b hb => hb.1)⟩
end
/-- A row of files, and its rows of bytes, which are only read. -/
def dualO (v : Value) (l : List SF) (dv : Value) (ls : List (List Int)) : Lies where
  P := fun W S => (RF W 0 S v l ∧ Kd.V kL 34 W 0 S dv ls) ∧ ∀ b, S b → b < W.heap.size
  lt := fun h => h.2
  keep := fun h hs hb => ⟨⟨Kd.S_step h.1.1 (fun b ho _ => hb b ho), Kd.V_step h.1.2 (fun b ho _ => hb b ho)⟩, fun b h1 => Nat.lt_of_lt_of_le (h.2 b h1) hs⟩
theorem datas_f : ∀ (k : Nat) (l : List SF) (i : Nat), l.length ≤ 5864062014804 → l.length < k + i → i ≤ l.length → leatref18_Datas.l0 k l ((l.take i).map (·.f1)) i = some (l.map (·.f1))
  | 0, l, i, hb, hk, hi => by omega
  | k + 1, l, i, hb, hk, hi => by
    unfold leatref18_Datas.l0
    by_cases h : i < l.length
    · have ih := datas_f k l (i + 1) hb (by omega) h
      rw [← List.take_append_getElem h, List.map_append] at ih
      rw [if_pos (by omega), if_pos (by omega), if_pos (by rw [List.length_map, List.length_take]; omega), rd45_at (List.getElem?_eq_getElem h), w64F (by omega)]
      exact ih
    · rw [if_neg (by omega), List.take_of_length_le (by omega)]
section
variable {w W W' : World} {L : List Lies} {i j d N : Nat} {k : Dk} {v : Value}
theorem sp_datasR {l : List SF} {A : Option Addr} {n c : Nat} (h : Sep w W L) (hi : L[i]? = some (filO (.slice A n c) l)) (hl : l.length ≤ 5864062014804) : Calls Try.prog 24 #[.slice A n c] W fun e W' => ∃ A' c', e = .returned (.slice A' n c') ∧ Sep w W' (L.set i (dualO (.slice A n c) l (.slice A' n c') (l.map (·.f1)))) := by
  obtain ⟨S, h1, h2, h3, h4⟩ := h.open hi
  have hn : n = l.length := (Kd.S_reads' h1.1).1
  subst hn
  have hf := datas_f (l.length + 1) l 0 hl (by omega) (Nat.zero_le _)
  rw [List.take_zero, List.map_nil, show ((0 : Nat) : Int) = 0 from rfl] at hf
  refine (leatref18_Datas.calls (l.length + 1) S A c l (l.map (fun x : SF => x.f1)) W (Kd.S_V h1.1) hf).mono ?_
  rintro e W' ⟨dv, rfl, hn, hb⟩
  obtain ⟨A', c', rfl⟩ := Kd.N_slice hn
  rw [List.length_map] at hn ⊢
  refine ⟨A', c', rfl, h4 W' (fun b => newer W S b ∧ b < W'.heap.size) (dualO (.slice A l.length c) l (.slice A' l.length c') (l.map (·.f1))) (Tch.of_below hb) ⟨⟨?_, ?_⟩, fun b hb => hb.2⟩ (fun b hb => hb.1)⟩
  · exact Kd.S_mono (Kd.S_bound (Kd.S_below h1.1 hb)) (fun b hb => ⟨.inl hb.1, hb.2.2.1⟩)
  · exact Kd.V_mono (Kd.V_bound (Kd.N_V hn)) (fun b hb => hb)
theorem sp_spoilLists {ls : List (List Int)} {l2 : List SF} {v2 : Value} {A B : Option Addr} {n c q : Nat} (h : Sep w W L) (hi : L[i]? = some (lstO (.slice A n c) ls)) (hj : L[j]? = some (dualO v2 l2 (.slice B n q) ls)) (hne : j ≠ i) (hb : ∀ l ∈ ls, l.length ≤ big) (hn : n ≤ 5864062014804) :
    Calls Try.prog 23 #[.slice A n c, .slice B n q] W fun e W' => e = .returned (.bool true) ∧ Sep w W' (L.set i anyO) := by
  obtain ⟨S, h1, h2, h3, h4⟩ := h.open hi
  obtain ⟨T, hT, hQ⟩ := h3 j _ hne hj
  refine (spoilLists_any W S A B n c q ls h1.1 hb hn (fun W' ht => ?_) (Kd.V_reads' hQ.1.2).2.1).mono ?_
  · have h5 := Kd.V_reads' (Kd.V_step hQ.1.2 (fun b hb hl => ht.block b hl (hT b hb).1))
    rw [h5.1]
    exact h5.2.2
  · rintro e W' ⟨rfl, ht⟩
    exact ⟨rfl, h4 W' S anyO ht (fun b hb => Nat.lt_of_lt_of_le (h1.2 b hb) ht.size) (fun b hb => .inl hb)⟩
theorem Sep.dual {l : List SF} {dv : Value} {ls : List (List Int)} {A : Option Addr} {n c : Nat} (h : Sep w W L) (hi : L[i]? = some (dualO (.slice A n c) l dv ls)) : k45.C W A n l ∧ n ≤ c := by
  obtain ⟨S, h1, _⟩ := h.get hi
  have h2 := Kd.S_reads' h1.1.1
  rw [h2.1]
  exact ⟨h2.2.2, h2.1 ▸ h2.2.1⟩
/-- Two rows and a third one, element m of a row of files. -/
theorem sp_apart {l : List Int} {l2 : List SF} {f : SF} {dv : Value} {ls : List (List Int)} {A B C : Option Addr} {n m ca cb q cq t : Nat} (h : Sep w W L) (hi : L[i]? = some (bytO (.slice A n ca) l)) (hj : L[j]? = some (bytO (.slice B n cb) l)) (ht : L[t]? = some (dualO (.slice C q cq) l2 dv ls)) (hij : j ≠ i) (hti : t ≠ i) (htj : t ≠ j)
    (hf : l2[m]? = some f) (hfl : f.f1 = l) (hn : n ≤ big) :
    ∃ g D cd, C = some ⟨g, 0, none⟩ ∧ W.cell? ⟨g, m * 2 + 1, none⟩ = some (.slice D n cd) ∧ Calls Try.prog 27 #[.slice A n ca, .slice B n cb, .slice D n cd] W fun e W' => e = .returned (.bool true) ∧ Sep w W' ((L.set i anyO).set j anyO) := by
  obtain ⟨h0, O, h2, h3⟩ := h
  have ha := h3 i _ hi
  have hb := h3 j _ hj
  have hd := h3 t _ ht
  have hl := (List.getElem?_eq_some_iff.1 hf).1
  have hnl : n = l.length := (Kd.R_reads' ha.1).1
  obtain ⟨g, cap, hv, _, hg, _⟩ := Kd.S_form hd.1.1 (by omega)
  obtain rfl : C = some ⟨g, 0, none⟩ := by injection hv
  obtain ⟨oki, cs, hcl, hM, hcc, hoki, _⟩ := S_turn hd.1.1 f hf
  obtain ⟨v1, rfl, hv1⟩ := k45_openM hM
  obtain ⟨D, cd, rfl⟩ := Kd.R_slice hv1
  have hc1 := hcc 1 _ rfl
  rw [hfl, ← hnl] at hc1 hv1
  refine ⟨g, D, cd, rfl, hc1, ?_⟩
  refine (apart_any W (fun b => O b = i + 1) (fun b => O b = j + 1) A B D n ca cb cd l ha.1 hb.1 (fun b h1 h2 => hij (by omega)) (fun W' hT => ?_) (Kd.R_reads' hv1).2.1 hn).mono ?_
  · have h5 := Kd.R_reads' (Kd.R_step hv1 (fun b hb hl => hT.block b hl (fun h => by
      have := (hoki b hb).1
      rcases h with h | h
      · exact hti (by omega)
      · exact htj (by omega))))
    rw [h5.1]
    exact h5.2.2
  · rintro e W' ⟨rfl, hT⟩
    refine ⟨rfl, h0.trans (hT.below h0.size (fun b hb => by rcases hb with hb | hb <;> exact (h2 b (by omega)).1)), O, fun b hb => ⟨(h2 b hb).1, Nat.lt_of_lt_of_le (h2 b hb).2 hT.size⟩, fun s Q hQ => ?_⟩
    rw [List.getElem?_set] at hQ
    have hlt : ∀ b, O b = s + 1 → b < W'.heap.size := fun b hb => Nat.lt_of_lt_of_le (h2 b (by omega)).2 hT.size
    by_cases hs : j = s
    · rw [if_pos hs] at hQ
      split at hQ
      · injection hQ with hQ
        subst hQ
        exact hlt
      · cases hQ
    · rw [if_neg hs, List.getElem?_set] at hQ
      by_cases hs2 : i = s
      · rw [if_pos hs2] at hQ
        split at hQ
        · injection hQ with hQ
          subst hQ
          exact hlt
        · cases hQ
      · rw [if_neg hs2] at hQ
        exact Q.keep (h3 s Q hQ) hT.size (fun b hb => hT.block b (h2 b (by omega)).2 (fun h => by
          rcases h with h | h
          · exact hs2 (by omega)
          · exact hs (by omega)))
/-- Load's disk. -/
theorem sp_load {fs : List SF} {K : Dk} {A : Option Addr} {n c : Nat} (h : Sep w W L) (hi : L[i]? = some (filO (.slice A n c) fs)) (hl : fs.length ≤ 3518437208882) (hf : ∀ f ∈ fs, f.f0.size ≤ maxLen ∧ Byt f.f1 ∧ f.f1.length ≤ big) (he : (loadD 16777216 fs).2 = 0) (hK : K = (loadD 16777216 fs).1) :
    Calls Try.prog 13 #[.int .i64 16777216, .slice A n c] W fun e W' => ∃ d, e = .returned (.tuple #[.pointer (some ⟨d, 0, none⟩), .int .i64 0]) ∧ Sep w W' (L ++ [diskO d K 0]) := by
  obtain ⟨S, h1, _⟩ := h.get hi
  refine (load_any W 16777216 A n c fs (frow_of h1.1) (by have := (Kd.S_reads' h1.1).1; omega) hf).mono fun e W' hp => ?_
  rcases hp with ⟨_, d, rfl, S', hD, hS, hb⟩ | ⟨h2, _⟩
  · rw [← hK] at hD
    exact ⟨d, rfl, h.push (P := diskO d K 0) hb hD hS⟩
  · exact absurd he h2
theorem sp_loadBad {fs : List SF} {ev : Int} {A : Option Addr} {n c : Nat} (h : Sep w W L) (hi : L[i]? = some (filO (.slice A n c) fs)) (hl : fs.length ≤ 3518437208882) (hf : ∀ f ∈ fs, f.f0.size ≤ maxLen ∧ Byt f.f1 ∧ f.f1.length ≤ big) (he : (loadD 16777216 fs).2 = ev) (h0 : ¬ ev = 0) :
    Calls Try.prog 13 #[.int .i64 16777216, .slice A n c] W fun e W' => e = .returned (.tuple #[.pointer none, .int .i64 ev]) ∧ Sep w W' L := by
  obtain ⟨S, h1, _⟩ := h.get hi
  refine (load_any W 16777216 A n c fs (frow_of h1.1) (by have := (Kd.S_reads' h1.1).1; omega) hf).mono fun e W' hp => ?_
  rcases hp with ⟨h1, _⟩ | ⟨_, h2, h3⟩
  · exact absurd (he ▸ h1) h0
  · rw [he] at h2
    exact ⟨h2, h.below h3⟩
end
end Go.Proofs.Ytkhopknpadncdaa
