import Derived.Test.YtkdhaipjfkalfaaGreatDoorPf
import Derived.Test.YtkdhaipjfkalfaaGreatDoorSa
import Derived.Test.YtkdhaipjfkalfaaGreatDoorMq
/- What is proved: what the law PlainNumbers says, of the lists' functions. -/
namespace Go.Proofs.YtkdhaipjfkalfaaGreatDoor
open Go Go.RowKit Go.Lib
set_option linter.unusedSimpArgs false
set_option linter.unusedVariables false

/-! ### texts of digits and signs may stand plain -/
def numC (c : UInt8) : Bool := decide (43 ≤ c.toNat) && decide (c.toNat ≤ 57)
theorem numC_ne {c d : UInt8} (h : numC c = true) (hd : ¬ (43 ≤ d.toNat ∧ d.toNat ≤ 57)) : (c == d) = false := by
  rw [← Bool.not_eq_true, beq_iff_eq]
  rintro rfl
  unfold numC at h
  simp at h
  exact hd h
theorem numC_badC {c prev : UInt8} {r : List UInt8} (h : numC c = true) : badC false prev c r = false := by
  unfold badC
  rw [numC_ne h (d := 58) (by decide), numC_ne h (d := 35) (by decide)]
  simp
theorem numC_ok : ∀ (l : List UInt8) (prev : UInt8), l.all numC = true → okB false prev l = true
  | [], _, _ => rfl
  | c :: r, prev, h => by
    rw [List.all_cons, Bool.and_eq_true] at h
    show (!badC false prev c r && okB false c r) = true
    rw [numC_badC h.1, numC_ok r c h.2]; rfl
theorem numC_valid : ∀ (l : List UInt8), l.all numC = true → validD l = true ∧ (runes l).all plainRune = true
  | [], _ => ⟨rfl, rfl⟩
  | c :: r, h => by
    rw [List.all_cons, Bool.and_eq_true] at h
    have ih := numC_valid r h.2
    have hc : 43 ≤ c.toNat ∧ c.toNat ≤ 57 := by have := h.1; unfold numC at this; simpa using this
    refine ⟨by rw [validD_cons c r (by omega)]; exact ih.1, ?_⟩
    rw [runes_step _ (by simp), decodeL_ascii c r (by omega), List.all_cons]
    show (plainRune c.toNat && (runes r).all plainRune) = true
    rw [ih.2]
    unfold plainRune plainN
    simp
    omega
theorem last_num (l : List UInt8) (hne : l ≠ []) (h : l.all numC = true) : numC (l.getD (l.length - 1) 0) = true := by
  have hl : 0 < l.length := List.length_pos_iff.2 hne
  rw [List.all_eq_true] at h
  rw [List.getD, List.getElem?_eq_getElem (by omega)]
  exact h _ (List.getElem_mem _)
theorem head_num (l : List UInt8) (hne : l ≠ []) (h : l.all numC = true) : numC (l.getD 0 0) = true := by
  have hl : 0 < l.length := List.length_pos_iff.2 hne
  rw [List.all_eq_true] at h
  rw [List.getD, List.getElem?_eq_getElem hl]
  exact h _ (List.getElem_mem _)
theorem may_num (l : List UInt8) (hne : l ≠ []) (h : l.all numC = true) (hb : amongB barredL (l.getD 0 0) = false) (hd : dashR l = false) : mayR l false = true := by
  unfold mayR headR
  rw [okR_B, numC_ok l 0 h, plainR_eq, (numC_valid l h).1, (numC_valid l h).2, numC_ne (head_num l hne h) (d := 32) (by decide), numC_ne (last_num l hne h) (d := 32) (by decide), hb, hd,
    show l.isEmpty = false from by rw [← Bool.not_eq_true, List.isEmpty_iff]; exact hne]
  rfl
theorem ne_word {l w : List UInt8} (h : l.all numC = true) (hw : w.all numC = false) : (l == w) = false := by
  rw [← Bool.not_eq_true, beq_iff_eq]
  rintro rfl
  rw [h] at hw; cases hw
theorem word_num (l : List UInt8) (hne : l ≠ []) (h : l.all numC = true) : wordR l = none := by
  unfold wordR
  rw [show l.isEmpty = false from by rw [← Bool.not_eq_true, List.isEmpty_iff]; exact hne]
  rw [ne_word h (by decide), ne_word h (by decide), ne_word h (by decide), ne_word h (by decide), ne_word h (by decide), ne_word h (by decide), ne_word h (by decide), ne_word h (by decide)]
  rfl

theorem dig_numC {c : UInt8} (h : isDigB c = true) : numC c = true := by
  have := digB h; unfold numC; simp; omega
theorem dig_okN {c : UInt8} (h : isDigB c = true) : okN c = true := by unfold okN; rw [h]; rfl
theorem dig_ne {c d : UInt8} (h : isDigB c = true) (hd : isDigB d = false) : c ≠ d := by rintro rfl; rw [h] at hd; cases hd
theorem dig_among {c : UInt8} {l : List UInt8} (h : isDigB c = true) (hl : l.all (fun d => !isDigB d) = true) : amongB l c = false := by
  rw [← Bool.not_eq_true, amongB_iff]
  intro hm
  rw [List.all_eq_true] at hl
  have := hl c hm
  rw [h] at this; cases this

/-- A text that begins with a digit, behind a sign or none, all of it a number's signs. -/
theorem num_resolve (sg E : List UInt8) (c : UInt8) (t : List UInt8) (hE : E = c :: t) (hc : isDigB c = true) (hall : E.all numC = true) (hok : E.all okN = true) (hsg : sg = [] ∨ sg = [45] ∨ sg = [43]) :
    resolveP ⟨(sg ++ E).toArray⟩ = if (numR (sg ++ E)).2 then (⟨2, (numR (sg ++ E)).1, ⟨#[]⟩⟩, 0) else (sc0, 50) := by
  subst hE
  have hne : sg ++ (c :: t) ≠ [] := by simp
  have hA : (sg ++ (c :: t)).all numC = true := by
    rw [List.all_append, hall]
    rcases hsg with rfl | rfl | rfl <;> rfl
  have hm : mayR (sg ++ (c :: t)) false = true := by
    refine may_num _ hne hA ?_ ?_
    · rcases hsg with rfl | rfl | rfl
      · exact dig_among hc (by decide)
      · exact (show amongB barredL 45 = false by decide)
      · exact (show amongB barredL 43 = false by decide)
    · unfold dashR
      rcases hsg with rfl | rfl | rfl
      · show (amongB [45, 63, 58] c && _) = false
        rw [dig_among hc (by decide)]; rfl
      · have h32 : (c == 32) = false := by simpa using dig_ne (d := 32) hc (by decide)
        show (_ && ((t.length + 1 + 1 == 1) || (c == 32))) = false
        rw [h32]; simp
      · rfl
  have hl : looksR (sg ++ (c :: t)) = true := by
    have h1 : strip1 (sg ++ (c :: t)) = c :: t := by
      unfold strip1 test1
      rcases hsg with rfl | rfl | rfl
      · show (if true && amongB [43, 45] c then t else c :: t) = c :: t
        rw [dig_among hc (by decide)]; rfl
      · rfl
      · rfl
    have h2 : strip2 (c :: t) = c :: t := by
      unfold strip2 test2
      have h46 : (c == 46) = false := by simpa using dig_ne (d := 46) hc (by decide)
      show (if true && (c == 46) then t else c :: t) = c :: t
      rw [h46]; rfl
    unfold looksR
    rw [h1, h2]
    unfold tailR
    rw [hok]
    show (true && (isDigB c && true)) = true
    rw [hc]; rfl
  have hd : (⟨(sg ++ (c :: t)).toArray⟩ : ByteArray).data.toList = sg ++ (c :: t) := by simp
  rw [← resolve_eq]
  unfold resolveR
  rw [hd, hm, word_num _ hne hA]
  simp only [Bool.not_true, Bool.and_false, Bool.false_eq_true, if_false, Option.getD_none]
  unfold restR
  rw [hd, hl]
  cases (numR (sg ++ (c :: t))).2 <;> rfl

/-! ### what the law resolves -/
theorem dec_cons (u : Nat) : ∃ c t, decDigits u = c :: t ∧ isDigB c = true := by
  have h := head_dig u
  cases hd : decDigits u with
  | nil => exact absurd hd (dec_ne u)
  | cons c t => rw [hd] at h; exact ⟨c, t, rfl, h⟩
theorem all_num (l : List UInt8) (h : l.all isDigB = true) : l.all numC = true := by
  rw [List.all_eq_true] at *; exact fun c hc => dig_numC (h c hc)
theorem all_okN (l : List UInt8) (h : l.all isDigB = true) : l.all okN = true := by
  rw [List.all_eq_true] at *; exact fun c hc => dig_okN (h c hc)
def sgOf (n : Int) : List UInt8 := if n < 0 then [45] else []
theorem sgOf_or (n : Int) : sgOf n = [] ∨ sgOf n = [45] ∨ sgOf n = [43] := by unfold sgOf; split; exact .inr (.inl rfl); exact .inl rfl
theorem itoa_sg (n : Int) : itoa n = sgOf n ++ decDigits n.natAbs := by
  unfold itoa sgOf
  split
  · rfl
  · rw [show n.natAbs = n.toNat by omega]; rfl
theorem num_in (n : Int) (h0 : -999999999999999 ≤ n) (h1 : n ≤ 999999999999999) : resolveP ⟨(sgOf n ++ decDigits n.natAbs).toArray⟩ = (⟨2, n, ⟨#[]⟩⟩, 0) := by
  obtain ⟨c, t, e, hc⟩ := dec_cons n.natAbs
  rw [num_resolve (sgOf n) (decDigits n.natAbs) c t e hc (all_num _ (dec_all _)) (all_okN _ (dec_all _)) (sgOf_or n), ← itoa_sg, numR_itoa n h0 h1]
  rfl
theorem num_long (sg E : List UInt8) (hsg : sg = [] ∨ sg = [45]) (hE : E.getD 0 0 ≠ 45) (h : 15 < E.length) : (numR (sg ++ E)).2 = false := by
  have hn : noneT (sg ++ E) = true := by
    unfold noneT
    have : digitsOf (sg ++ E) = E := by
      rcases hsg with rfl | rfl
      · cases E with
        | nil => rfl
        | cons b t => exact (digitsOf_pos hE).2
      · rfl
    rw [this, decide_eq_true h]; simp
  unfold numR
  rw [hn]; rfl
theorem num_out (n : Int) (h : n < -999999999999999 ∨ 999999999999999 < n) : (resolveP ⟨(sgOf n ++ decDigits n.natAbs).toArray⟩).2 = 50 := by
  obtain ⟨c, t, e, hc⟩ := dec_cons n.natAbs
  rw [num_resolve (sgOf n) (decDigits n.natAbs) c t e hc (all_num _ (dec_all _)) (all_okN _ (dec_all _)) (sgOf_or n)]
  have hlen : 15 < (decDigits n.natAbs).length := by
    have hb := (valD_bd _ (dec_all n.natAbs)).2
    rw [valD_dec] at hb
    rcases Nat.lt_or_ge 15 (decDigits n.natAbs).length with h15 | h15
    · exact h15
    · have hp : (10 : Int) ^ (decDigits n.natAbs).length ≤ 10 ^ 15 := by
        have : (10 : Nat) ^ (decDigits n.natAbs).length ≤ 10 ^ 15 := Nat.pow_le_pow_right (by omega) h15
        exact_mod_cast this
      omega
  rw [num_long (sgOf n) _ (by unfold sgOf; split; exact .inr rfl; exact .inl rfl) (by rw [e]; exact dig_ne hc (by decide)) hlen]
  rfl
theorem num_nought (n : Int) : (resolveP ⟨(sgOf n ++ (48 :: decDigits n.natAbs)).toArray⟩).2 = 50 := by
  have h1 : (48 :: decDigits n.natAbs).all isDigB = true := by rw [List.all_cons, dec_all]; rfl
  rw [num_resolve (sgOf n) (48 :: decDigits n.natAbs) 48 _ rfl (by decide) (all_num _ h1) (all_okN _ h1) (sgOf_or n)]
  have hn : noneT (sgOf n ++ (48 :: decDigits n.natAbs)) = true := by
    obtain ⟨c, t, e, hc⟩ := dec_cons n.natAbs
    unfold noneT
    have hdg : digitsOf (sgOf n ++ (48 :: decDigits n.natAbs)) = 48 :: decDigits n.natAbs := by
      unfold sgOf
      split
      · rfl
      · exact (digitsOf_pos (by decide)).2
    have hne : (sgOf n ++ (48 :: decDigits n.natAbs) == [48]) = false := by
      rw [← Bool.not_eq_true, beq_iff_eq, e]
      intro h
      have := congrArg List.length h
      simp at this
      omega
    rw [hdg, hne]
    simp
  unfold numR
  rw [hn]; rfl
theorem num_plus (u : Nat) : (resolveP ⟨(43 :: decDigits u).toArray⟩).2 = 50 := by
  obtain ⟨c, t, e, hc⟩ := dec_cons u
  have h := num_resolve [43] (decDigits u) c t e hc (all_num _ (dec_all _)) (all_okN _ (dec_all _)) (.inr (.inr rfl))
  rw [show ([43] : List UInt8) ++ decDigits u = 43 :: decDigits u from rfl] at h
  rw [h]
  have hn : (numR (43 :: decDigits u)).2 = false := by
    unfold numR
    rw [(digitsOf_pos (b := 43) (t := decDigits u) (by decide)).2]
    rw [show (43 :: decDigits u : List UInt8).all isDigB = false from rfl]
    split <;> rfl
  rw [hn]; rfl
theorem num_dot (n : Int) : (resolveP ⟨(sgOf n ++ (decDigits n.natAbs ++ [46, 48])).toArray⟩).2 = 50 := by
  obtain ⟨c, t, e, hc⟩ := dec_cons n.natAbs
  rw [num_resolve (sgOf n) (decDigits n.natAbs ++ [46, 48]) c (t ++ [46, 48]) (by rw [e]; rfl) hc (by rw [List.all_append, all_num _ (dec_all _)]; rfl) (by rw [List.all_append, all_okN _ (dec_all _)]; rfl) (sgOf_or n)]
  have hdg : digitsOf (sgOf n ++ (decDigits n.natAbs ++ [46, 48])) = decDigits n.natAbs ++ [46, 48] := by
    unfold sgOf
    split
    · rfl
    · rw [e]; exact (digitsOf_pos (dig_ne hc (by decide))).2
  have hn : (numR (sgOf n ++ (decDigits n.natAbs ++ [46, 48]))).2 = false := by
    unfold numR
    have hf : (decDigits n.natAbs ++ ([46, 48] : List UInt8)).all isDigB = false := by
      rw [List.all_append, show ([46, 48] : List UInt8).all isDigB = false from rfl, Bool.and_false]
    rw [hdg, hf]
    split <;> rfl
  rw [hn]; rfl
end Go.Proofs.YtkdhaipjfkalfaaGreatDoor

/- What is proved: scalars' texts, and scalars of texts, as functions; they tell each other; no program stands in it. -/
namespace Go.Proofs.YtkdhaipjfkalfaaGreatDoor
open Go Go.RowKit Go.Lib
set_option linter.unusedSimpArgs false
set_option linter.unusedVariables false

def textL (x : Sc) : List UInt8 :=
  if x.kind = 0 then [110, 117, 108, 108] else if x.kind = 1 then (if x.num = 1 then [116, 114, 117, 101] else [102, 97, 108, 115, 101])
  else if x.kind = 2 then itoa x.num else quoteP x.str.data.toList
/-- Package scal's Text. -/
def textP (x : Sc) : ByteArray × Int := if rightP x then (⟨(textL x).toArray⟩, 0) else (⟨#[]⟩, 60)
/-- What a text says. -/
def saidP (s : ByteArray) : Option Sc :=
  if s.data.toList.headD 0 = 34 then (if (readQ s 0).2.2 = 0 then some ⟨3, 0, ⟨(readQ s 0).1.toArray⟩⟩ else none)
  else (if (resolveP s).2 = 0 then some (resolveP s).1 else none)
/-- Package scal's Read. -/
def readS (s : ByteArray) : Sc × Int := match saidP s with
  | some x => if rightP x = true ∧ textL x = s.data.toList then (x, 0) else (sc0, 60)
  | none => (sc0, 60)

theorem mk_of {s : ByteArray} {l : List UInt8} (h : s.data.toList = l) : s = ⟨l.toArray⟩ := by subst h; rfl
theorem empty_of {s : ByteArray} (h : s.data.toList.isEmpty = true) : s = ⟨#[]⟩ := by
  have := List.isEmpty_iff.1 h
  exact mk_of this
theorem right_cases {x : Sc} (h : rightP x = true) : x = sc0 ∨ x = ⟨1, 1, ⟨#[]⟩⟩ ∨ x = ⟨1, 0, ⟨#[]⟩⟩ ∨ (∃ n : Int, x = ⟨2, n, ⟨#[]⟩⟩ ∧ -999999999999999 ≤ n ∧ n ≤ 999999999999999) ∨ (∃ s : ByteArray, x = ⟨3, 0, s⟩ ∧ validD s.data.toList = true) := by
  obtain ⟨k, n, s⟩ := x
  unfold rightP at h
  simp only at h
  split at h
  · rename_i hk
    simp only [Bool.and_eq_true, beq_iff_eq] at h
    left
    rw [hk, h.1, empty_of h.2]
    rfl
  · split at h
    · rename_i hk
      simp only [Bool.and_eq_true, Bool.or_eq_true, beq_iff_eq] at h
      rw [hk, empty_of h.1]
      rcases h.2 with h2 | h2
      · right; right; left; rw [h2]
      · right; left; rw [h2]
    · split at h
      · rename_i hk
        simp only [Bool.and_eq_true, decide_eq_true_eq] at h
        right; right; right; left
        exact ⟨n, by rw [hk, empty_of h.1], h.2.1, h.2.2⟩
      · split at h
        · rename_i hk
          simp only [Bool.and_eq_true, beq_iff_eq] at h
          right; right; right; right
          exact ⟨s, by rw [hk, h.1], h.2⟩
        · cases h
theorem res_null : resolveP ⟨#[110, 117, 108, 108]⟩ = (sc0, 0) := by rw [← resolve_eq]; kernel_rfl
theorem res_true : resolveP ⟨#[116, 114, 117, 101]⟩ = (⟨1, 1, ⟨#[]⟩⟩, 0) := by rw [← resolve_eq]; kernel_rfl
theorem res_false : resolveP ⟨#[102, 97, 108, 115, 101]⟩ = (⟨1, 0, ⟨#[]⟩⟩, 0) := by rw [← resolve_eq]; kernel_rfl
theorem itoa_head (n : Int) : (itoa n).headD 0 ≠ 34 := by
  rw [itoa_sg]
  unfold sgOf
  obtain ⟨c, t, h, hc⟩ := dec_cons n.natAbs
  split
  · rw [List.singleton_append, List.headD_cons]; decide
  · rw [List.nil_append, h, List.headD_cons]
    rintro rfl
    cases hc
theorem readQ_text {l : List UInt8} (hv : validD l = true) : readQ ⟨(quoteP l).toArray⟩ 0 = (l, (quoteP l).length, 0) := by
  have h1 := (quote_right hv []).1
  have h2 := readQ_quote hv [] [] (by rw [List.nil_append]; exact h1)
  simpa using h2
/-- A scalar's text says it. -/
theorem said_text {x : Sc} (h : rightP x = true) : saidP ⟨(textL x).toArray⟩ = some x := by
  rcases right_cases h with rfl | rfl | rfl | ⟨n, rfl, h0, h1⟩ | ⟨s, rfl, hv⟩
  · show saidP ⟨#[110, 117, 108, 108]⟩ = _
    unfold saidP
    rw [if_neg (by decide), res_null]; rfl
  · show saidP ⟨#[116, 114, 117, 101]⟩ = _
    unfold saidP
    rw [if_neg (by decide), res_true]; rfl
  · show saidP ⟨#[102, 97, 108, 115, 101]⟩ = _
    unfold saidP
    rw [if_neg (by decide), res_false]; rfl
  · show saidP ⟨(itoa n).toArray⟩ = _
    unfold saidP
    rw [toList_mk, if_neg (itoa_head n), itoa_sg, num_in n h0 h1]; rfl
  · show saidP ⟨(quoteP s.data.toList).toArray⟩ = _
    unfold saidP
    rw [toList_mk, if_pos (by rfl), readQ_text hv]
    rw [if_pos rfl, ← mk_of rfl]
theorem read_text {x : Sc} (h : rightP x = true) : readS ⟨(textL x).toArray⟩ = (x, 0) := by
  unfold readS
  rw [said_text h, toList_mk]
  exact if_pos ⟨h, rfl⟩
theorem text_inj {x y : Sc} (hx : rightP x = true) (hy : rightP y = true) (h : textL x = textL y) : x = y := by
  have h1 := said_text hx
  rw [h, said_text hy] at h1
  exact (Option.some.inj h1).symm
theorem read_cases (s : ByteArray) : (∃ z, readS s = (z, 0) ∧ rightP z = true ∧ textL z = s.data.toList) ∨ readS s = (sc0, 60) := by
  unfold readS
  cases saidP s with
  | none => exact .inr rfl
  | some x =>
    by_cases h : rightP x = true ∧ textL x = s.data.toList
    · left; exact ⟨x, if_pos h, h.1, h.2⟩
    · right; exact if_neg h
/-- ScalPlain's law. -/
theorem plain_text {x : Sc} (h : rightP x = true) (hk : x.kind ≠ 3) : readP ⟨(textL x).toArray⟩ true = (x, 0) := by
  have key : ∀ l : List UInt8, mayP l true = true → saidP ⟨l.toArray⟩ = some x → l.headD 0 ≠ 34 → (resolveP ⟨l.toArray⟩).2 = 0 → readP ⟨l.toArray⟩ true = (x, 0) := fun l hm hs h34 he => by
    unfold readP
    rw [toList_mk, hm, if_neg (by decide)]
    unfold saidP at hs
    rw [toList_mk, if_neg h34, if_pos he] at hs
    exact Prod.ext (Option.some.inj hs) he
  have hst := said_text h
  rcases right_cases h with rfl | rfl | rfl | ⟨n, rfl, h0, h1⟩ | ⟨s, rfl, hv⟩
  · exact key _ (by rw [← mayR_eq]; kernel_rfl) hst (by decide) (congrArg Prod.snd res_null)
  · exact key _ (by rw [← mayR_eq]; kernel_rfl) hst (by decide) (congrArg Prod.snd res_true)
  · exact key _ (by rw [← mayR_eq]; kernel_rfl) hst (by decide) (congrArg Prod.snd res_false)
  · refine key (itoa n) ?_ hst (itoa_head n) (by rw [itoa_sg, num_in n h0 h1])
    obtain ⟨c, t, hd, hc⟩ := dec_cons n.natAbs
    have hall := dec_all n.natAbs
    have hne : (itoa n).isEmpty = false := by
      rw [itoa_sg, hd]
      unfold sgOf
      split <;> rfl
    have hfl : ∀ c ∈ itoa n, amongB flowL c = false := by
      intro c hc
      rw [itoa_sg] at hc
      rcases List.mem_append.1 hc with h | h
      · unfold sgOf at h
        split at h
        · rw [List.mem_singleton.1 h]; rfl
        · simp at h
      · rw [List.all_eq_true] at hall
        exact dig_among (hall c h) (by decide)
    rw [flow_same _ hfl]
    cases hm : mayP (itoa n) false with
    | true => rfl
    | false =>
      exfalso
      have hr := num_in n h0 h1
      rw [← itoa_sg] at hr
      unfold resolveP at hr
      rw [toList_mk, hm, hne] at hr
      have h51 : (51 : Int) = 0 := congrArg Prod.snd hr
      exact absurd h51 (by decide)
  · exact absurd rfl hk
theorem plain_str (l : List UInt8) (hv : validD l = true) : mayP (quoteP l) true = false := by
  cases h : mayP (quoteP l) true with
  | false => rfl
  | true =>
    have := (may_parts h).2.2.2.2.2.1
    have h34 : amongB barredL 34 = false := this
    exact absurd h34 (by decide)
end Go.Proofs.YtkdhaipjfkalfaaGreatDoor
