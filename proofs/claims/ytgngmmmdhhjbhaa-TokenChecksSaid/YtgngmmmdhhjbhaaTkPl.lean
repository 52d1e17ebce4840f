/- plain laws of slots: what keeps them valid -/
import Derived.Test.YtgngmmmdhhjbhaaTkDer
import Derived.Test.YtgngmmmdhhjbhaaTkNew
namespace Go.Proofs.Ytgngmmmdhhjbhaa
set_option linter.unusedVariables false
open Go.RowKit Go.Sort
set_option maxRecDepth 100000

theorem gK_get {k : List TkK} {i : Nat} (h : i < k.length) : gK k (i : Int) = k[i] := by simp [gK, h]
theorem tU_get {k : List TkK} {i : Nat} (h : i < k.length) : tU k (i : Int) = k[i].us := by simp [tU, h]
theorem tP_get {k : List TkK} {i : Nat} (h : i < k.length) : tP k (i : Int) = k[i].par := by simp [tP, h]
theorem tU_nat {k : List TkK} {s : Int} (h : tU k s = true) : ∃ i : Nat, s = i ∧ i < k.length := by
  have := tU_lt h
  exact ⟨s.toNat, by omega, this.2⟩
/-- what holds of a used slot of valid slots -/
theorem val_used {k : List TkK} (h : valK k = true) {i : Nat} (hi : i < k.length) (hu : k[i].us = true) : sndB k[i] = true ∧ dscK k 8 i 0 = true ∧ (i = 0 ∨ upK k[i] (gK k k[i].par) = true) := by
  obtain ⟨h8, -, hs⟩ := valK_iff.1 h
  have q := hs i (by omega)
  unfold slotK at q
  rw [gK_get hi, if_pos hu] at q
  simpa using q
theorem val_free {k : List TkK} (h : valK k = true) {i : Nat} (hi : i < k.length) (hu : k[i].us = false) : freB k[i] = true := by
  obtain ⟨h8, -, hs⟩ := valK_iff.1 h
  have q := hs i (by omega)
  unfold slotK at q
  rw [gK_get hi, if_neg (by rw [hu]; decide)] at q
  exact q
theorem val_root {k : List TkK} (h : valK k = true) : ∃ h0 : 0 < k.length, k[0].us = true ∧ k[0].par = -1 ∧ k[0].un = 0 := by
  obtain ⟨h8, hr, -⟩ := valK_iff.1 h
  have h0 : 0 < k.length := by omega
  refine ⟨h0, ?_⟩
  have e : gK k 0 = k[0] := gK_get (i := 0) h0
  rw [e] at hr
  simpa [rootK] using hr
theorem val_of {k : List TkK} (h8 : k.length = 8) (hr : ∀ h0 : 0 < k.length, k[0].us = true ∧ k[0].par = -1 ∧ k[0].un = 0)
    (hu : ∀ i (hi : i < k.length), k[i].us = true → sndB k[i] = true ∧ dscK k 8 i 0 = true ∧ (i = 0 ∨ upK k[i] (gK k k[i].par) = true)) (hf : ∀ i (hi : i < k.length), k[i].us = false → freB k[i] = true) : valK k = true := by
  refine valK_yes h8 ?_ fun i hi => ?_
  · have h0 : 0 < k.length := by omega
    have e : gK k 0 = k[0] := gK_get (i := 0) h0
    rw [e]
    simpa [rootK] using hr h0
  · have hil : i < k.length := by omega
    unfold slotK
    rw [gK_get hil]
    cases hus : k[i].us with
    | true => rw [if_pos rfl]; simpa using hu i hil hus
    | false => rw [if_neg (by decide)]; exact hf i hil hus
/-- slots that agree along a way lead alike -/
theorem anc_congr {k k' : List TkK} : ∀ (n : Nat) (s : Int), (∀ x ∈ ancK k n s, tU k' x = true ∧ tP k' x = tP k x) → (tU k s = false → tU k' s = false) → (∀ x, tU k x = false → (∃ y ∈ ancK k n s, tP k y = x) → tU k' x = false) → ancK k' n s = ancK k n s
  | 0, s, _, _, _ => rfl
  | n + 1, s, h, h0, hn => by
    cases hu : tU k s with
    | false => rw [ancK_no hu, ancK_no (h0 hu)]
    | true =>
      have hs := h s (by rw [ancK_yes hu]; simp)
      rw [ancK_yes hu, ancK_yes hs.1, hs.2]
      congr 1
      refine anc_congr n _ (fun x hx => h x (by rw [ancK_yes hu]; simp [hx])) (fun q => hn _ q ⟨s, by rw [ancK_yes hu]; simp, rfl⟩) fun x hx ⟨y, hy, e⟩ => hn x hx ⟨y, by rw [ancK_yes hu]; simp [hy], e⟩
/-- however many steps: what is reached is reached in as many as there are slots -/
theorem anc_idx {k : List TkK} {s x : Int} : ∀ (i : Nat), x = itP k i s → (∀ j, j ≤ i → tU k (itP k j s) = true) → ∃ i', i' < k.length ∧ x = itP k i' s ∧ ∀ j, j ≤ i' → tU k (itP k j s) = true := by
  intro i
  induction i using Nat.strongRecOn with
  | _ i ih =>
    intro e h
    by_cases hlt : i < k.length
    · exact ⟨i, hlt, e, h⟩
    · obtain ⟨p, q, hpq, hq, epq⟩ := pigeon k.length (fun j => (itP k j s).toNat) fun j hj => (tU_lt (h j (by omega))).2
      have ee : itP k p s = itP k q s := by
        have h1 := (tU_lt (h p (by omega))).1
        have h2 := (tU_lt (h q (by omega))).1
        omega
      refine ih (p + (i - q)) (by omega) ?_ fun j hj => h j (by omega)
      rw [e, itP_add, ee, ← itP_add]
      congr 1
      omega
theorem anc_len {k : List TkK} {n : Nat} {s x : Int} (h : x ∈ ancK k n s) : x ∈ ancK k k.length s := by
  rw [anc_mem] at h ⊢
  obtain ⟨i, -, e, q⟩ := h
  exact anc_idx i e q
theorem anc_trans {k : List TkK} {n m : Nat} {s x y : Int} (h : x ∈ ancK k n s) (h2 : y ∈ ancK k m x) : y ∈ ancK k k.length s := by
  rw [anc_mem] at h h2
  obtain ⟨i, -, e, q⟩ := h
  obtain ⟨j, -, e2, q2⟩ := h2
  refine anc_len (n := i + j + 1) ?_
  rw [anc_mem]
  refine ⟨i + j, by omega, by rw [itP_add, ← e, e2], fun z hz => ?_⟩
  by_cases hzi : z ≤ i
  · exact q z hzi
  · have := q2 (z - i) (by omega)
    rw [e, ← itP_add, show i + (z - i) = z by omega] at this
    exact this
theorem dsc_iff {k : List TkK} {n : Nat} {s t : Int} : dscK k n s t = true ↔ t ∈ ancK k n s := by unfold dscK; rw [List.contains_iff_mem]
/-- the way of a used slot of valid slots: its parent is used, or it is the root -/
theorem val_par {k : List TkK} (h : valK k = true) {s : Int} (hu : tU k s = true) : (s = 0 ∧ tP k s = -1) ∨ (s ≠ 0 ∧ tU k (tP k s) = true) := by
  obtain ⟨i, rfl, hi⟩ := tU_nat hu
  have hus : k[i].us = true := by rw [← tU_get hi]; exact hu
  obtain ⟨-, hd, -⟩ := val_used h hi hus
  by_cases e : i = 0
  · subst e
    obtain ⟨h0, -, hp, -⟩ := val_root h
    exact .inl ⟨rfl, by rw [tP_get hi]; exact hp⟩
  · exact .inr ⟨by omega, (dsc_par (n := 7) hd (by omega)).2.1⟩
theorem free_len (k : List TkK) (f : Int → Bool) : (freeM k f).length = k.length := by simp [freeM]
theorem free_get {k : List TkK} {f : Int → Bool} {i : Nat} (h : i < (freeM k f).length) : (freeM k f)[i] = if f i = true then freeK else k[i]'(by rw [← free_len k f]; exact h) := by simp [freeM]
theorem free_tU {k : List TkK} {f : Int → Bool} {s : Int} : tU (freeM k f) s = (tU k s && !f s) := by
  cases hu : tU k s with
  | true =>
    obtain ⟨i, rfl, hi⟩ := tU_nat hu
    have hi' : i < (freeM k f).length := by rw [free_len]; exact hi
    rw [tU_get hi', free_get]
    rw [tU_get hi] at hu
    cases hf : f i <;> simp [freeK, hu]
  | false =>
    cases hq : tU (freeM k f) s with
    | false => rfl
    | true =>
      obtain ⟨i, rfl, hi'⟩ := tU_nat hq
      have hi : i < k.length := by rw [← free_len k f]; exact hi'
      rw [tU_get hi', free_get] at hq
      rw [tU_get hi] at hu
      cases hf : f i
      · rw [hf] at hq; simp [hu] at hq
      · rw [hf] at hq; simp [freeK] at hq
theorem free_tP {k : List TkK} {f : Int → Bool} {s : Int} (hu : tU k s = true) (hf : f s = false) : tP (freeM k f) s = tP k s := by
  obtain ⟨i, rfl, hi⟩ := tU_nat hu
  have hi' : i < (freeM k f).length := by rw [free_len]; exact hi
  rw [tP_get hi', free_get, tP_get hi, hf]
  rfl
theorem free_anc {k : List TkK} {f : Int → Bool} {n : Nat} {s : Int} (h : ∀ x ∈ ancK k n s, f x = false) : ancK (freeM k f) n s = ancK k n s :=
  anc_congr n s (fun x hx => ⟨by rw [free_tU, ancK_used hx, h x hx]; rfl, free_tP (ancK_used hx) (h x hx)⟩) (fun q => by rw [free_tU, q]; rfl) (fun x q _ => by rw [free_tU, q]; rfl)
theorem up_par {k : List TkK} {s : Int} {t : TkK} (hs : tU k s = true) (i : Nat) (e : s = i) (hi : i < k.length) : gK k s = k[i] := by subst e; exact gK_get hi
/-- freeing slots with all that descend from them keeps slots valid -/
theorem free_val {k : List TkK} {f : Int → Bool} (h : valK k = true) (h0 : f 0 = false) (hd : ∀ s, tU k s = true → f s = false → ∀ a ∈ ancK k 8 s, f a = false) : valK (freeM k f) = true := by
  have h8 := (valK_iff.1 h).1
  refine val_of (by rw [free_len]; exact h8) (fun q0 => ?_) (fun i hi hu => ?_) (fun i hi hu => ?_)
  · obtain ⟨p0, r1, r2, r3⟩ := val_root h
    rw [free_get, show f ((0 : Nat) : Int) = false from h0]
    exact ⟨r1, r2, r3⟩
  · have hi' : i < k.length := by rw [← free_len k f]; exact hi
    have hfi : f i = false := by
      rw [free_get] at hu
      cases hf : f i
      · rfl
      · rw [hf] at hu; simp [freeK] at hu
    rw [free_get, hfi] at hu ⊢
    simp only [Bool.false_eq_true, if_false] at hu ⊢
    have htu : tU k i = true := by rw [tU_get hi']; exact hu
    obtain ⟨u1, u2, u3⟩ := val_used h hi' hu
    have hanc := hd i htu hfi
    refine ⟨u1, ?_, ?_⟩
    · unfold dscK at u2 ⊢
      rw [free_anc hanc]; exact u2
    · rcases u3 with u3 | u3
      · exact .inl u3
      · by_cases e : i = 0
        · exact .inl e
        · refine .inr ?_
          have hp := (dsc_par (n := 7) u2 (by omega)).2.1
          rw [tP_get hi'] at hp
          obtain ⟨j, ej, hj⟩ := tU_nat hp
          have hfj : f j = false := hanc j (by
            rw [ancK_yes htu, tP_get hi', ej]
            rw [ej] at hp
            rw [ancK_yes hp]
            simp)
          have hj' : j < (freeM k f).length := by rw [free_len]; exact hj
          rw [ej, gK_get hj', free_get, hfj]
          rw [ej, gK_get hj] at u3
          exact u3
  · have hi' : i < k.length := by rw [← free_len k f]; exact hi
    rw [free_get] at hu ⊢
    cases hf : f i
    · rw [hf] at hu
      simp only [Bool.false_eq_true, if_false] at hu ⊢
      exact val_free h hi' hu
    · simp [freeK, freB, freN]
theorem root_anc {k : List TkK} (h : valK k = true) (n : Nat) : ancK k (n + 1) 0 = [0] := by
  obtain ⟨h0, r1, r2, -⟩ := val_root h
  have hu : tU k ((0 : Nat) : Int) = true := by rw [tU_get h0]; exact r1
  have hp : tP k ((0 : Nat) : Int) = -1 := by rw [tP_get h0]; exact r2
  have := ancK_yes (n := n) hu
  rw [hp] at this
  have hneg : ancK k n (-1) = [] := by
    cases n with
    | zero => rfl
    | succ n => exact ancK_no (by simp [tU])
  rw [hneg] at this
  exact this
theorem rev_val {k : List TkK} {slot : Int} {er : Int} {y : List TkK} (h : revM k slot = (er, y)) (he : er = 0) : valK k = true ∧ valK y = true ∧ 1 ≤ slot ∧ slot < 8 ∧ tU k slot = true ∧ y = freeM k fun s => dscK k 8 s slot := by
  subst he
  unfold revM at h
  split at h
  · injection h with h1 _; cases h1
  rename_i hv
  split at h
  · injection h with h1 _; cases h1
  rename_i hr
  split at h
  · injection h with h1 _; cases h1
  rename_i hu
  injection h with _ h2
  have hv' : valK k = true := by simpa using hv
  have h8 := (valK_iff.1 hv').1
  refine ⟨hv', ?_, by omega, by omega, by simpa using hu, h2.symm⟩
  rw [← h2]
  refine free_val hv' ?_ fun s hs hf a ha => ?_
  · cases q : dscK k 8 0 slot with
    | false => rfl
    | true =>
      rw [dsc_iff, root_anc hv' 7, List.mem_singleton] at q
      omega
  · cases q : dscK k 8 a slot with
    | false => rfl
    | true =>
      rw [dsc_iff] at q
      have := anc_trans ha q
      rw [h8, ← dsc_iff, hf] at this
      cases this
theorem new_val {sec : List UInt8} {rt cl : Int} (h1 : sec.length = 8) (h2 : rV rt = true) (h3 : 0 ≤ cl) (h4 : cl ≤ 3) : valK (newK sec rt cl) = true := by
  have hu0 : tU (newK sec rt cl) ((0 : Nat) : Int) = true := by rw [tU_get (by simp [newK])]; rfl
  have hfree : ∀ i (hi : i < (newK sec rt cl).length), i ≠ 0 → (newK sec rt cl)[i] = freeK := fun i hi hne => by
    cases i with
    | zero => exact absurd rfl hne
    | succ i =>
      show (List.replicate 7 freeK)[i]'_ = freeK
      rw [List.getElem_replicate]
  refine val_of (by simp [newK]) (fun _ => ⟨rfl, rfl, rfl⟩) (fun i hi hu => ?_) (fun i hi hu => ?_)
  · by_cases e : i = 0
    · subst e
      refine ⟨?_, dsc_self (n := 7) hu0, .inl rfl⟩
      show sndN sec.length rt cl 0 = true
      simp [sndN, h1, h2, h3, h4]
    · rw [hfree i hi e] at hu
      simp [freeK] at hu
  · by_cases e : i = 0
    · subst e; cases hu
    · rw [hfree i hi e]
      simp [freeK, freB, freN]
/-- slots of which an ancestor's time is over -/
def expF (k : List TkK) (now : Int) (s : Int) : Bool := (ancK k 8 s).any fun a => expB (gK k a).un now
theorem exp_val {k : List TkK} (now : Int) (h : valK k = true) : valK (freeM k (expF k now)) = true := by
  have h8 := (valK_iff.1 h).1
  refine free_val h ?_ fun s hs hf a ha => ?_
  · unfold expF
    rw [root_anc h 7]
    obtain ⟨h0, r1, r2, r3⟩ := val_root h
    have e : gK k 0 = k[0] := gK_get (i := 0) h0
    simp [e, r3, expB]
  · unfold expF at hf ⊢
    rw [List.any_eq_false] at hf ⊢
    intro y hy
    have := anc_trans ha hy
    rw [h8] at this
    exact hf y this
/-- a derived token keeps slots valid -/
theorem put_val {k : List TkK} {i p : Nat} {t : TkK} (h : valK k = true) (hi : i < k.length) (hfi : k[i].us = false) (hp : p < k.length) (hpu : k[p].us = true) (ht : t.us = true) (hpar : t.par = p) (hs : sndB t = true) (hu : upK t k[p] = true) : valK (k.set i t) = true := by
  have h8 := (valK_iff.1 h).1
  have hl : (k.set i t).length = k.length := List.length_set
  have hip : i ≠ p := fun e => by subst e; rw [hpu] at hfi; cases hfi
  have hi0 : i ≠ 0 := fun e => by
    subst e
    obtain ⟨_, r1, -, -⟩ := val_root h
    rw [r1] at hfi; cases hfi
  have gne : ∀ j (hj : j < k.length), j ≠ i → (k.set i t)[j]'(by rw [hl]; exact hj) = k[j] := fun j hj e => List.getElem_set_ne (by omega) _
  have geq : (k.set i t)[i]'(by rw [hl]; exact hi) = t := List.getElem_set_self _
  have tUk : ∀ s, tU k s = true → tU (k.set i t) s = true ∧ tP (k.set i t) s = tP k s := fun s q => by
    obtain ⟨j, rfl, hj⟩ := tU_nat q
    have hji : j ≠ i := fun e => by subst e; rw [tU_get hj, hfi] at q; cases q
    have hj' : j < (k.set i t).length := by rw [hl]; exact hj
    rw [tU_get hj', tP_get hj', gne j hj hji, ← tU_get hj, ← tP_get hj]
    exact ⟨q, rfl⟩
  have tUn : ∀ s, tU k s = false → s ≠ i → tU (k.set i t) s = false := fun s q e => by
    cases q2 : tU (k.set i t) s with
    | false => rfl
    | true =>
      obtain ⟨j, rfl, hj'⟩ := tU_nat q2
      have hj : j < k.length := by rw [← hl]; exact hj'
      rw [tU_get hj', gne j hj (fun e2 => e (by rw [e2])), ← tU_get hj, q] at q2
      cases q2
  have anc : ∀ n s, tU k s = true → ancK (k.set i t) n s = ancK k n s := fun n s q =>
    anc_congr n s (fun x hx => tUk x (ancK_used hx)) (fun q2 => by rw [q] at q2; cases q2) (fun x hx ⟨y, hy, e⟩ => by
      refine tUn x hx fun e2 => ?_
      rcases val_par h (ancK_used hy) with ⟨-, e3⟩ | ⟨-, e3⟩
      · rw [e3] at e; omega
      · rw [e, hx] at e3; cases e3)
  refine val_of (by rw [hl]; exact h8) (fun q0 => ?_) (fun j hj hju => ?_) (fun j hj hju => ?_)
  · obtain ⟨p0, r⟩ := val_root h
    rw [gne 0 p0 (by omega)]
    exact r
  · have hjk : j < k.length := by rw [← hl]; exact hj
    by_cases e : j = i
    · subst e
      rw [geq]
      have hpU : tU k p = true := by rw [tU_get hp]; exact hpu
      have hd := (val_used h hp hpu).2.1
      refine ⟨hs, ?_, .inr ?_⟩
      · have hju2 : tU (k.set j t) j = true := by rw [tU_get hj]; exact hju
        have e9 : (0 : Int) ∈ ancK (k.set j t) 9 j := by
          rw [ancK_yes hju2, tP_get hj, geq, hpar, anc 8 p hpU]
          rw [dsc_iff] at hd
          exact List.mem_cons_of_mem _ hd
        rw [dsc_iff]
        have := anc_len e9
        rw [hl, h8] at this
        exact this
      · have hp' : p < (k.set j t).length := by rw [hl]; exact hp
        rw [hpar, gK_get hp', gne p hp (by omega)]
        exact hu
    · rw [gne j hjk e] at hju ⊢
      obtain ⟨u1, u2, u3⟩ := val_used h hjk hju
      have hjU : tU k j = true := by rw [tU_get hjk]; exact hju
      refine ⟨u1, ?_, ?_⟩
      · unfold dscK at u2 ⊢
        rw [anc 8 j hjU]; exact u2
      · rcases u3 with u3 | u3
        · exact .inl u3
        · by_cases ej : j = 0
          · exact .inl ej
          · refine .inr ?_
            have hq := (dsc_par (n := 7) u2 (by omega)).2.1
            rw [tP_get hjk] at hq
            obtain ⟨m, em, hm⟩ := tU_nat hq
            have hmi : m ≠ i := fun e3 => by
              subst e3
              rw [em, tU_get hm, hfi] at hq; cases hq
            have hm' : m < (k.set i t).length := by rw [hl]; exact hm
            rw [em, gK_get hm', gne m hm hmi]
            rw [em, gK_get hm] at u3
            exact u3
  · have hjk : j < k.length := by rw [← hl]; exact hj
    by_cases e : j = i
    · subst e; rw [geq, ht] at hju; cases hju
    · rw [gne j hjk e] at hju ⊢
      exact val_free h hjk hju
theorem rW_valid {a b : Int} (h : rWithin a b = true) : rV a = true := by
  simp only [rWithin, Bool.and_eq_true] at h
  exact h.1.1
/-- what a derive that succeeds has done -/
theorem der_val {k : List TkK} {parent rights class_ life : Int} {sec : List UInt8} {now s er : Int} {y : List TkK} (h : derM k parent rights class_ life sec now = (er, s, y)) (he : er = 0) :
    valK k = true ∧ valK y = true ∧ tU k parent = true ∧ ∃ i : Nat, s = i ∧ ∃ hi : i < k.length, k[i].us = false ∧ (∀ j (hj : j < k.length), j < i → k[j].us = true) ∧ y = k.set i ⟨true, sec, parent, rights, class_, untM life now⟩ := by
  subst he
  unfold derM at h
  split at h
  · injection h with h1 _; cases h1
  rename_i h1
  split at h
  · injection h with h1 _; cases h1
  rename_i h2
  split at h
  · injection h with h1 _; cases h1
  rename_i h3
  split at h
  · injection h with h1 _; cases h1
  rename_i h4
  split at h
  · injection h with h1 _; cases h1
  rename_i i hf
  injection h with _ h
  injection h with e1 e2
  have h1 := Classical.not_not.1 h1
  have h3 := Classical.not_not.1 h3
  have hu : tU k parent = true := by simpa using h2
  obtain ⟨p, rfl, hp⟩ := tU_nat hu
  have hpu : k[p].us = true := by rw [← tU_get hp]; exact hu
  rw [gK_get hp] at h3 h4
  rw [List.findIdx?_eq_some_iff_getElem] at hf
  obtain ⟨hi, hfi, hlo⟩ := hf
  have hfi' : k[i].us = false := by simpa using hfi
  refine ⟨h1.1, ?_, hu, i, e1.symm, hi, hfi', fun j hj hji => by have := hlo j hji; simpa using this, e2.symm⟩
  rw [← e2]
  have hsp := (val_used h1.1 hp hpu).1
  simp only [sndB, sndN, Bool.and_eq_true, decide_eq_true_eq] at hsp
  refine put_val h1.1 hi hfi' hp hpu rfl rfl ?_ ?_
  · simp only [sndB, sndN, Bool.and_eq_true, decide_eq_true_eq]
    refine ⟨h1.2.1, rW_valid h3.1, h3.2.1, by omega, ?_, ?_⟩
    · unfold untM; split <;> omega
    · unfold untM; split <;> omega
  · simp only [upK, h3.1, Bool.true_and, Bool.and_eq_true, decide_eq_true_eq]
    exact ⟨h3.2.2.1, by simpa using h4⟩
end Go.Proofs.Ytgngmmmdhhjbhaa
