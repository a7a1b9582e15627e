/- What is proved: what the laws PlainTells, PlainRight, PlainWords, PlainFlows say, of the lists' functions. -/
import Derived.Test.YtccjfoldjbmnfaaDoorPe
namespace Go.Proofs.YtccjfoldjbmnfaaDoor
open Go Go.RowKit Go.Lib
set_option linter.unusedSimpArgs false
set_option linter.unusedVariables false

/-! ### shown -/
theorem sh_a : resolveP ⟨#[45, 49, 50]⟩ = (⟨2, -12, ⟨#[]⟩⟩, 0) := by rw [← resolve_eq]; kernel_rfl
theorem sh_b : resolveP ⟨#[97, 58, 98]⟩ = (⟨3, 0, ⟨#[97, 58, 98]⟩⟩, 0) := by rw [← resolve_eq]; kernel_rfl
theorem sh_g : resolveP ⟨#[49, 46, 53]⟩ = (sc0, 50) := by rw [← resolve_eq]; kernel_rfl
theorem sh_h : resolveP ⟨#[97, 58, 32, 98]⟩ = (sc0, 51) := by rw [← resolve_eq]; kernel_rfl
theorem sh_c : readP ⟨#[126]⟩ true = (sc0, 0) := by rw [← read_eq]; kernel_rfl
theorem sh_j : readP ⟨#[97, 44, 98]⟩ true = (sc0, 51) := by rw [← read_eq]; kernel_rfl
theorem sh_m : mayP (⟨#[97, 44, 98]⟩ : ByteArray).data.toList false = true := by rw [← mayR_eq]; kernel_rfl

/-! ### PlainRight -/
theorem okAll_mono (xs : List (Nat × Nat × Nat)) (h : okAll true xs = true) : okAll false xs = true := by
  unfold okAll at *
  rw [List.all_eq_true] at *
  intro x hx
  have := h x hx
  unfold badAt at *
  simp at this ⊢
  exact ⟨⟨this.1.1.1, this.1.2⟩, this.2⟩
theorem may_mono (l : List UInt8) (h : mayP l true = true) : mayP l false = true := by
  unfold mayP longOK at *
  simp only [Bool.and_eq_true] at *
  exact ⟨h.1, okAll_mono _ h.2⟩
theorem may_valid (l : List UInt8) (flow : Bool) (h : mayP l flow = true) : validD l = true := by
  unfold mayP at h
  simp only [Bool.and_eq_true] at h
  exact h.1.1.2
theorem rest_facts (s : ByteArray) (hv : validD s.data.toList = true) : rightP (restR s).1 = true ∧ ((restR s).2 = 0 ∨ (restR s).1 = sc0) ∧ ((restR s).1.kind ≠ 3 ∨ (restR s).1.str = s) := by
  unfold restR
  cases looksR s.data.toList with
  | false => refine ⟨?_, .inl rfl, .inr rfl⟩; unfold rightP; simpa using hv
  | true =>
    obtain ⟨⟨n, ok⟩, hx⟩ : ∃ x, numR s.data.toList = x := ⟨_, rfl⟩
    rw [hx]
    cases ok with
    | false => exact ⟨rfl, .inr rfl, .inl (show sc0.kind ≠ 3 by decide)⟩
    | true =>
      obtain ⟨_, h0, h1⟩ := itoa_numR _ n hx
      refine ⟨?_, .inl rfl, .inl (show (2 : Int) ≠ 3 by decide)⟩
      unfold rightP
      simp
      omega
theorem word_facts (l : List UInt8) (p : Sc × Int) (h : wordR l = some p) : rightP p.1 = true ∧ (p.2 = 0 ∨ p.1 = sc0) ∧ p.1.kind ≠ 3 := by
  unfold wordR at h
  repeat' split at h
  all_goals first
    | (injection h with h; subst h; first | exact ⟨rfl, .inl rfl, by decide⟩ | exact ⟨rfl, .inr rfl, by decide⟩)
    | cases h
theorem resolve_facts (s : ByteArray) : rightP (resolveP s).1 = true ∧ ((resolveP s).2 = 0 ∨ (resolveP s).1 = sc0) ∧ ((resolveP s).1.kind ≠ 3 ∨ (resolveP s).1.str = s) := by
  rw [← resolve_eq]
  unfold resolveR
  by_cases hc : (!s.data.toList.isEmpty && !mayR s.data.toList false) = true
  · rw [if_pos hc]; exact ⟨rfl, .inr rfl, .inl (by decide)⟩
  · rw [if_neg hc]
    cases hw : wordR s.data.toList with
    | some p =>
      have := word_facts _ p hw
      exact ⟨this.1, this.2.1, .inl this.2.2⟩
    | none =>
      refine rest_facts s ?_
      by_cases he : s.data.toList.isEmpty = true
      · rw [List.isEmpty_iff.1 he]; rfl
      · have hm : mayR s.data.toList false = true := by
          cases hm : mayR s.data.toList false with
          | true => rfl
          | false => rw [hm] at hc; simp at hc; exact absurd (by rw [hc]; rfl) he
        rw [mayR_eq] at hm
        exact may_valid _ _ hm
theorem resolve_read (s : ByteArray) (he : s.data.toList.isEmpty = false) : readP s false = resolveP s := by
  unfold readP
  cases hm : mayP s.data.toList false with
  | true => rfl
  | false => unfold resolveP; rw [he, hm]; rfl
theorem read_flow (s : ByteArray) (h : mayP s.data.toList true = true) : readP s true = readP s false := by
  unfold readP; rw [h, may_mono _ h]

/-! ### PlainWords -/
theorem q_plain (l : List UInt8) : plainR (81 :: l) = plainR l := by
  rw [plainR_eq, plainR_eq, validD_cons 81 l (by decide), runes_step (81 :: l) (by simp), decodeL_ascii 81 l (by decide)]
  rfl
theorem q_ok (l : List UInt8) (h : okB false 0 l = true) : okB false 0 (81 :: l) = true := by
  show (!badC false 0 81 l && okB false 81 l) = true
  have h1 : badC false 0 81 l = false := by unfold badC; simp
  rw [h1]
  cases l with
  | nil => rfl
  | cons b t =>
    have h2 : (!badC false 0 b t && okB false b t) = true := h
    show (true && (!badC false 81 b t && okB false b t)) = true
    have : badC false 81 b t = badC false 0 b t := by
      unfold badC
      rw [show ((81 : UInt8) == 32) = false from rfl, show ((0 : UInt8) == 32) = false from rfl]
    rw [this]
    simpa using h2
theorem q_may (l : List UInt8) (h : mayP l false = true) : mayP (81 :: l) false = true := by
  rw [← mayR_eq] at *
  unfold mayR headR at *
  simp only [Bool.and_eq_true] at *
  obtain ⟨⟨he, hp, h0, hl, ha⟩, hd, ho⟩ := h
  rw [okR_B] at *
  have hne : l ≠ [] := by rintro rfl; cases he
  have hlen : 0 < l.length := List.length_pos_iff.2 hne
  refine ⟨⟨rfl, by rw [q_plain]; exact hp, rfl, ?_, (show (!amongB barredL 81) = true by decide)⟩, rfl, q_ok l ho⟩
  rw [List.length_cons, Nat.add_sub_cancel]
  have e : (81 :: l).getD l.length 0 = l.getD (l.length - 1) 0 := by
    obtain ⟨n, hn⟩ : ∃ n, l.length = n + 1 := ⟨l.length - 1, by omega⟩
    rw [hn]; rfl
  rw [e]; exact hl
theorem q_resolve (s : ByteArray) (h : mayP s.data.toList false = true) : resolveP (⟨#[81]⟩ ++ s) = (⟨3, 0, ⟨#[81]⟩ ++ s⟩, 0) := by
  have hl : (⟨#[81]⟩ ++ s : ByteArray).data.toList = 81 :: s.data.toList := by simp
  rw [resolve_may _ (by rw [hl]; exact q_may _ h), hl]
  have hw : wordR (81 :: s.data.toList) = none := by
    unfold wordR
    simp
  rw [hw]
  show restR _ = _
  unfold restR
  rw [hl]
  have : looksR (81 :: s.data.toList) = false := by
    have h1 : strip1 (81 :: s.data.toList) = 81 :: s.data.toList := by unfold strip1 test1 amongB; simp
    unfold looksR
    rw [h1]
    unfold strip2 test2 tailR isDigB
    simp
  rw [this]; rfl

/-! ### PlainFlows -/
theorem flow_among (l : List UInt8) (c : UInt8) (hc : c ∈ l) (h : amongB flowL c = true) : mayP l true = false := by
  rw [← mayR_eq]
  unfold mayR
  obtain ⟨i, hi, rfl⟩ := List.getElem_of_mem hc
  rw [okR_bad hi (by unfold badR; rw [List.getD, List.getElem?_eq_getElem hi, Option.getD_some, h]; simp)]
  simp
theorem badC_flow {prev c : UInt8} {r : List UInt8} (h : amongB flowL c = false) : badC true prev c r = badC false prev c r := by
  unfold badC; rw [h]; rfl
theorem okB_flow : ∀ (l : List UInt8) (prev : UInt8), (∀ c ∈ l, amongB flowL c = false) → okB true prev l = okB false prev l
  | [], _, _ => rfl
  | c :: r, prev, h => by
    show (!badC true prev c r && okB true c r) = (!badC false prev c r && okB false c r)
    rw [badC_flow (h c (by simp)), okB_flow r c (fun d hd => h d (by simp [hd]))]
theorem flow_same (l : List UInt8) (h : ∀ c ∈ l, amongB flowL c = false) : mayP l true = mayP l false := by
  rw [← mayR_eq, ← mayR_eq]
  unfold mayR
  rw [okR_B, okR_B, okB_flow l 0 h]
theorem blank_head (l : List UInt8) (flow : Bool) : mayP (32 :: l) flow = false := by
  rw [← mayR_eq]
  unfold mayR headR
  simp
theorem blank_last (l : List UInt8) (flow : Bool) : mayP (l ++ [32]) flow = false := by
  rw [← mayR_eq]
  unfold mayR headR
  have : (l ++ [32]).getD ((l ++ [32]).length - 1) 0 = 32 := by simp [List.getD]
  rw [this]
  simp
theorem colon_last (l : List UInt8) (flow : Bool) : mayP (l ++ [58]) flow = false := by
  rw [← mayR_eq]
  unfold mayR
  have h1 : bad1 (l ++ [58]) l.length = true := by unfold bad1; simp [List.getD]
  rw [okR_bad (k := l.length) (by simp) (by unfold badR; rw [h1]; rfl)]
  simp
theorem note_last (l : List UInt8) (flow : Bool) : mayP (l ++ [32, 35]) flow = false := by
  rw [← mayR_eq]
  unfold mayR
  have h1 : bad2 (l ++ [32, 35]) (l.length + 1) = true := by unfold bad2; simp [List.getD]
  rw [okR_bad (k := l.length + 1) (by simp) (by unfold badR; rw [h1]; simp)]
  simp
end Go.Proofs.YtccjfoldjbmnfaaDoor
