import Derived.Sort.LotA
/- What is proved: slices' stable sort, as functions over a row: it puts in order, and permutes; no program stands in it. -/
namespace Go.Proofs.YtkdhaipjfkalfaaGreatDoor
open Go.Sort
set_option linter.unusedSimpArgs false
set_option linter.unusedVariables false
set_option linter.unusedSectionVars false
variable {α : Type} [Inhabited α]

/-- swapRange's loop, from i. -/
def swapFrom (a b n i : Nat) (d : Array α) : Array α := if i < n then swapFrom a b n (i + 1) (swp d (a + i) (b + i)) else d
termination_by n - i
theorem swapFrom_go (a b n i : Nat) (d : Array α) (h : i < n) : swapFrom a b n i d = swapFrom a b n (i + 1) (swp d (a + i) (b + i)) := by rw [swapFrom, if_pos h]
theorem swapFrom_stop (a b n i : Nat) (d : Array α) (h : ¬ i < n) : swapFrom a b n i d = d := by rw [swapFrom, if_neg h]
theorem size_swapFrom (a b n : Nat) : ∀ (k i : Nat) (d : Array α), n - i ≤ k → (swapFrom a b n i d).size = d.size
  | 0, i, d, h => by rw [swapFrom_stop _ _ _ _ _ (by omega)]
  | k + 1, i, d, h => by
    by_cases hi : i < n
    · rw [swapFrom_go _ _ _ _ _ hi, size_swapFrom a b n k _ _ (by omega), size_swp]
    · rw [swapFrom_stop _ _ _ _ _ hi]
def swapR (a b n : Nat) (d : Array α) : Array α := swapFrom a b n 0 d
theorem size_swapR (a b n : Nat) (d : Array α) : (swapR a b n d).size = d.size := size_swapFrom a b n n 0 d (by omega)
theorem swapFrom_get (a b n : Nat) : ∀ (k i : Nat) (d : Array α), n - i ≤ k → a + n ≤ b → b + n ≤ d.size → ∀ t,
    (swapFrom a b n i d)[t]! = if a + i ≤ t ∧ t < a + n then d[b + (t - a)]! else if b + i ≤ t ∧ t < b + n then d[a + (t - b)]! else d[t]!
  | 0, i, d, h, hab, hb, t => by
    rw [swapFrom_stop _ _ _ _ _ (by omega), if_neg (by omega), if_neg (by omega)]
  | k + 1, i, d, h, hab, hb, t => by
    by_cases hi : i < n
    · rw [swapFrom_go _ _ _ _ _ hi, swapFrom_get a b n k (i + 1) _ (by omega) hab (by rw [size_swp]; exact hb)]
      have g := swp_get d (show a + i < d.size by omega) (show b + i < d.size by omega)
      by_cases c1 : a + (i + 1) ≤ t ∧ t < a + n
      · rw [if_pos c1, if_pos (by omega), g, if_neg (by omega), if_neg (by omega)]
      · rw [if_neg c1]
        by_cases c2 : b + (i + 1) ≤ t ∧ t < b + n
        · rw [if_pos c2, if_neg (by omega), if_pos (by omega), g, if_neg (by omega), if_neg (by omega)]
        · rw [if_neg c2, g]
          by_cases c3 : t = b + i
          · rw [if_pos c3, if_neg (by omega), if_pos (by omega)]; congr 1; omega
          · rw [if_neg c3]
            by_cases c4 : t = a + i
            · rw [if_pos c4, if_pos (by omega)]; congr 1; omega
            · rw [if_neg c4, if_neg (by omega), if_neg (by omega)]
    · rw [swapFrom_stop _ _ _ _ _ hi, if_neg (by omega), if_neg (by omega)]
theorem swapFrom_perm (a b n lo hi : Nat) (h1 : lo ≤ a) (h2 : b + n ≤ hi) : ∀ (k i : Nat) (d : Array α), n - i ≤ k → a + n ≤ b → hi ≤ d.size → PermIn lo hi d (swapFrom a b n i d)
  | 0, i, d, h, hab, hs => by rw [swapFrom_stop _ _ _ _ _ (by omega)]; exact permIn_refl _ _ _
  | k + 1, i, d, h, hab, hs => by
    by_cases hi' : i < n
    · rw [swapFrom_go _ _ _ _ _ hi']
      exact permIn_trans _ _ _ _ _ (swp_permIn d lo hi (a + i) (b + i) (by omega) (by omega) (by omega) (by omega) hs) (swapFrom_perm a b n lo hi h1 h2 k (i + 1) _ (by omega) hab (by rw [size_swp]; exact hs))
    · rw [swapFrom_stop _ _ _ _ _ hi']; exact permIn_refl _ _ _
theorem swapR_get {a b n : Nat} {d : Array α} (hab : a + n ≤ b) (hb : b + n ≤ d.size) (t : Nat) :
    (swapR a b n d)[t]! = if a ≤ t ∧ t < a + n then d[b + (t - a)]! else if b ≤ t ∧ t < b + n then d[a + (t - b)]! else d[t]! := by
  have := swapFrom_get a b n n 0 d (by omega) hab hb t
  simpa [swapR] using this
theorem swapR_perm {a b n lo hi : Nat} (h1 : lo ≤ a) (h2 : b + n ≤ hi) (d : Array α) (hab : a + n ≤ b) (hs : hi ≤ d.size) : PermIn lo hi d (swapR a b n d) :=
  swapFrom_perm a b n lo hi h1 h2 n 0 d (by omega) hab hs

/-- rotate's loop, and the last exchange. (Of none the Go text is never asked.) -/
def rotFrom (m i j : Nat) (d : Array α) : Array α :=
  if h : i = 0 ∨ j = 0 then d else
    if i = j then swapR (m - i) m i d else
      if j < i then rotFrom m (i - j) j (swapR (m - i) m j d) else rotFrom m i (j - i) (swapR (m - i) (m + j - i) i d)
termination_by i + j
theorem rotFrom_eq {m i : Nat} {d : Array α} (h : 0 < i) : rotFrom m i i d = swapR (m - i) m i d := by rw [rotFrom, dif_neg (by omega), if_pos rfl]
theorem rotFrom_gt {m i j : Nat} {d : Array α} (h : 0 < j) (h2 : j < i) : rotFrom m i j d = rotFrom m (i - j) j (swapR (m - i) m j d) := by
  conv => lhs; rw [rotFrom, dif_neg (by omega), if_neg (by omega), if_pos h2]
theorem rotFrom_lt {m i j : Nat} {d : Array α} (h : 0 < i) (h2 : i < j) : rotFrom m i j d = rotFrom m i (j - i) (swapR (m - i) (m + j - i) i d) := by
  conv => lhs; rw [rotFrom, dif_neg (by omega), if_neg (by omega), if_neg (by omega)]
theorem rotFrom_spec (m : Nat) : ∀ (k i j : Nat) (d : Array α), i + j ≤ k → 0 < i → 0 < j → i ≤ m → m + j ≤ d.size →
    (rotFrom m i j d).size = d.size ∧ (∀ t, (rotFrom m i j d)[t]! = if m - i ≤ t ∧ t < m - i + j then d[t + i]! else if m - i + j ≤ t ∧ t < m + j then d[t - j]! else d[t]!) ∧ ∀ lo hi, lo ≤ m - i → m + j ≤ hi → hi ≤ d.size → PermIn lo hi d (rotFrom m i j d)
  | 0, i, j, d, h, hi, hj, him, hs => by omega
  | k + 1, i, j, d, h, hi, hj, him, hs => by
    rcases Nat.lt_trichotomy i j with c | c | c
    · rw [rotFrom_lt hi c]
      have hsz := size_swapR (m - i) (m + j - i) i d
      obtain ⟨r1, r2, r3⟩ := rotFrom_spec m k i (j - i) (swapR (m - i) (m + j - i) i d) (by omega) hi (by omega) him (by rw [hsz]; omega)
      have g := fun t => swapR_get (a := m - i) (b := m + j - i) (n := i) (d := d) (by omega) (by omega) t
      refine ⟨by rw [r1, hsz], fun t => ?_, fun lo hi' l1 l2 l3 => permIn_trans _ _ _ _ _ (swapR_perm l1 (by omega) d (by omega) l3) (r3 lo hi' l1 (by omega) (by rw [hsz]; exact l3))⟩
      rw [r2 t]
      by_cases c1 : m - i ≤ t ∧ t < m - i + (j - i)
      · rw [if_pos c1, if_pos (by omega), g, if_neg (by omega), if_neg (by omega)]
      · rw [if_neg c1]
        by_cases c2 : m - i + (j - i) ≤ t ∧ t < m + (j - i)
        · rw [if_pos c2, if_pos (by omega), g, if_pos (by omega)]; congr 1; omega
        · rw [if_neg c2, g]
          by_cases c3 : m - i ≤ t ∧ t < m - i + i
          · omega
          · rw [if_neg c3]
            by_cases c4 : m + j - i ≤ t ∧ t < m + j - i + i
            · rw [if_pos c4, if_neg (by omega), if_pos (by omega)]; congr 1; omega
            · rw [if_neg c4, if_neg (by omega), if_neg (by omega)]
    · subst c
      rw [rotFrom_eq hi]
      have g := fun t => swapR_get (a := m - i) (b := m) (n := i) (d := d) (by omega) (by omega) t
      refine ⟨size_swapR _ _ _ _, fun t => ?_, fun lo hi' l1 l2 l3 => swapR_perm l1 l2 d (by omega) l3⟩
      rw [g]
      by_cases c1 : m - i ≤ t ∧ t < m - i + i
      · rw [if_pos c1, if_pos c1]; congr 1; omega
      · rw [if_neg c1, if_neg c1]
        by_cases c2 : m ≤ t ∧ t < m + i
        · rw [if_pos c2, if_pos (by omega)]; congr 1; omega
        · rw [if_neg c2, if_neg (by omega)]
    · rw [rotFrom_gt hj c]
      have hsz := size_swapR (m - i) m j d
      obtain ⟨r1, r2, r3⟩ := rotFrom_spec m k (i - j) j (swapR (m - i) m j d) (by omega) (by omega) hj (by omega) (by rw [hsz]; omega)
      have g := fun t => swapR_get (a := m - i) (b := m) (n := j) (d := d) (by omega) (by omega) t
      refine ⟨by rw [r1, hsz], fun t => ?_, fun lo hi' l1 l2 l3 => permIn_trans _ _ _ _ _ (swapR_perm l1 l2 d (by omega) l3) (r3 lo hi' (by omega) l2 (by rw [hsz]; exact l3))⟩
      rw [r2 t]
      by_cases c1 : m - (i - j) ≤ t ∧ t < m - (i - j) + j
      · rw [if_pos c1, g]
        by_cases c0 : t + (i - j) < m
        · rw [if_neg (by omega), if_neg (by omega)]
          rw [if_neg (by omega), if_pos (by omega)]
          omega
        · rw [if_neg (by omega), if_pos (by omega), if_neg (by omega), if_pos (by omega)]; congr 1; omega
      · rw [if_neg c1]
        by_cases c2 : m - (i - j) + j ≤ t ∧ t < m + j
        · rw [if_pos c2, g, if_neg (by omega)]
          by_cases c0 : m ≤ t - j ∧ t - j < m + j
          · rw [if_pos c0]; omega
          · rw [if_neg c0, if_neg (by omega), if_pos (by omega)]
        · rw [if_neg c2, g]
          by_cases c3 : m - i ≤ t ∧ t < m - i + j
          · rw [if_pos c3, if_pos (by omega)]; congr 1; omega
          · rw [if_neg c3]
            by_cases c4 : m ≤ t ∧ t < m + j
            · omega
            · rw [if_neg c4, if_neg (by omega), if_neg (by omega)]

/-- The search by halves: where 'go on' stops. -/
def halves (p : Nat → Bool) (i j : Nat) : Nat := if i < j then (if p ((i + j) / 2) then halves p ((i + j) / 2 + 1) j else halves p i ((i + j) / 2)) else i
termination_by j - i
theorem halves_up {p : Nat → Bool} {i j : Nat} (h : i < j) (hp : p ((i + j) / 2) = true) : halves p i j = halves p ((i + j) / 2 + 1) j := by
  conv => lhs; rw [halves, if_pos h, if_pos hp]
theorem halves_down {p : Nat → Bool} {i j : Nat} (h : i < j) (hp : p ((i + j) / 2) = false) : halves p i j = halves p i ((i + j) / 2) := by
  conv => lhs; rw [halves, if_pos h, if_neg (by rw [hp]; decide)]
theorem halves_stop {p : Nat → Bool} {i j : Nat} (h : ¬ i < j) : halves p i j = i := by rw [halves, if_neg h]
theorem halves_spec (p : Nat → Bool) (lo hi : Nat) (hmono : ∀ x y, lo ≤ x → x < y → y < hi → p y = true → p x = true) : ∀ (k i j : Nat), j - i ≤ k → lo ≤ i → i ≤ j → j ≤ hi →
    (∀ t, lo ≤ t → t < i → p t = true) → (∀ t, j ≤ t → t < hi → p t = false) →
    lo ≤ halves p i j ∧ halves p i j ≤ hi ∧ (∀ t, lo ≤ t → t < halves p i j → p t = true) ∧ (∀ t, halves p i j ≤ t → t < hi → p t = false)
  | 0, i, j, h, hlo, hij, hhi, h1, h2 => by
    rw [halves_stop (by omega)]
    exact ⟨hlo, by omega, h1, fun t ht hth => h2 t (by omega) hth⟩
  | k + 1, i, j, h, hlo, hij, hhi, h1, h2 => by
    by_cases c : i < j
    · cases hp : p ((i + j) / 2) with
      | true =>
        rw [halves_up c hp]
        refine halves_spec p lo hi hmono k _ j (by omega) (by omega) (by omega) hhi (fun t ht hth => ?_) h2
        by_cases e : t = (i + j) / 2
        · rw [e]; exact hp
        · exact hmono t _ ht (by omega) (by omega) hp
      | false =>
        rw [halves_down c hp]
        refine halves_spec p lo hi hmono k i _ (by omega) hlo (by omega) (by omega) h1 (fun t ht hth => ?_)
        by_cases e : t = (i + j) / 2
        · rw [e]; exact hp
        · cases hq : p t with
          | false => rfl
          | true => rw [hmono _ t (by omega) (by omega) hth hq] at hp; cases hp
    · rw [halves_stop c]
      exact ⟨hlo, by omega, h1, fun t ht hth => h2 t (by omega) hth⟩
theorem halves_in (p : Nat → Bool) : ∀ (k i j : Nat), j - i ≤ k → i ≤ j → i ≤ halves p i j ∧ halves p i j ≤ j
  | 0, i, j, h, hij => by rw [halves_stop (by omega)]; omega
  | k + 1, i, j, h, hij => by
    by_cases c : i < j
    · cases hp : p ((i + j) / 2) with
      | true =>
        rw [halves_up c hp]
        have := halves_in p k ((i + j) / 2 + 1) j (by omega) (by omega)
        omega
      | false =>
        rw [halves_down c hp]
        have := halves_in p k i ((i + j) / 2) (by omega) (by omega)
        omega
    · rw [halves_stop c]; omega
/-- The first one goes up to e. -/
def goUp (e k : Nat) (d : Array α) : Array α := if k < e then goUp e (k + 1) (swp d k (k + 1)) else d
termination_by e - k
theorem goUp_go {e k : Nat} {d : Array α} (h : k < e) : goUp e k d = goUp e (k + 1) (swp d k (k + 1)) := by rw [goUp, if_pos h]
theorem goUp_stop {e k : Nat} {d : Array α} (h : ¬ k < e) : goUp e k d = d := by rw [goUp, if_neg h]
theorem goUp_spec (e lo hi : Nat) (he : e < hi) : ∀ (n k : Nat) (d : Array α), e - k ≤ n → lo ≤ k → k ≤ e → hi ≤ d.size →
    PermIn lo hi d (goUp e k d) ∧ ∀ t, (goUp e k d)[t]! = if k ≤ t ∧ t < e then d[t + 1]! else if t = e then d[k]! else d[t]!
  | 0, k, d, h, hlo, hk, hs => by
    rw [goUp_stop (by omega)]
    refine ⟨permIn_refl _ _ _, fun t => ?_⟩
    rw [if_neg (by omega)]
    by_cases c : t = e
    · rw [if_pos c]; congr 1; omega
    · rw [if_neg c]
  | n + 1, k, d, h, hlo, hk, hs => by
    by_cases c : k < e
    · rw [goUp_go c]
      obtain ⟨r1, r2⟩ := goUp_spec e lo hi he n (k + 1) (swp d k (k + 1)) (by omega) (by omega) (by omega) (by rw [size_swp]; exact hs)
      refine ⟨permIn_trans _ _ _ _ _ (swp_permIn d lo hi k (k + 1) hlo (by omega) (by omega) (by omega) hs) r1, fun t => ?_⟩
      have g := swp_get d (show k < d.size by omega) (show k + 1 < d.size by omega)
      rw [r2 t]
      by_cases c1 : k + 1 ≤ t ∧ t < e
      · rw [if_pos c1, if_pos (by omega), g, if_neg (by omega), if_neg (by omega)]
      · rw [if_neg c1]
        by_cases c2 : t = e
        · rw [if_pos c2, if_neg (by omega), if_pos c2, g, if_pos rfl]
        · rw [if_neg c2, g]
          by_cases c3 : t = k
          · rw [if_neg (by omega), if_pos c3, if_pos (by omega)]; congr 1; omega
          · rw [if_neg (by omega), if_neg c3, if_neg (by omega), if_neg c2]
    · rw [goUp_stop c]
      refine ⟨permIn_refl _ _ _, fun t => ?_⟩
      rw [if_neg (by omega)]
      by_cases c : t = e
      · rw [if_pos c]; congr 1; omega
      · rw [if_neg c]
/-- The last one goes down to i. -/
def goDown (i : Nat) : Nat → Array α → Array α
  | 0, d => d
  | k + 1, d => if i < k + 1 then goDown i k (swp d (k + 1) k) else d
theorem goDown_go {i k : Nat} {d : Array α} (h : i < k + 1) : goDown i (k + 1) d = goDown i k (swp d (k + 1) k) := by rw [goDown, if_pos h]
theorem goDown_stop {i k : Nat} {d : Array α} (h : ¬ i < k) : goDown i k d = d := by
  cases k with
  | zero => rfl
  | succ k => rw [goDown, if_neg h]
theorem goDown_spec (i lo hi : Nat) (hi' : lo ≤ i) : ∀ (k : Nat) (d : Array α), k < hi → i ≤ k → hi ≤ d.size →
    PermIn lo hi d (goDown i k d) ∧ ∀ t, (goDown i k d)[t]! = if i < t ∧ t ≤ k then d[t - 1]! else if t = i then d[k]! else d[t]!
  | 0, d, hk, hik, hs => by
    refine ⟨permIn_refl _ _ _, fun t => ?_⟩
    rw [if_neg (by omega)]
    by_cases c : t = i
    · rw [if_pos c]; show d[t]! = _; congr 1; omega
    · rw [if_neg c]; rfl
  | k + 1, d, hk, hik, hs => by
    by_cases c : i < k + 1
    · rw [goDown_go c]
      obtain ⟨r1, r2⟩ := goDown_spec i lo hi hi' k (swp d (k + 1) k) (by omega) (by omega) (by rw [size_swp]; exact hs)
      refine ⟨permIn_trans _ _ _ _ _ (swp_permIn d lo hi (k + 1) k (by omega) (by omega) (by omega) (by omega) hs) r1, fun t => ?_⟩
      have g := swp_get d (show k + 1 < d.size by omega) (show k < d.size by omega)
      rw [r2 t]
      by_cases c1 : i < t ∧ t ≤ k
      · rw [if_pos c1, if_pos (by omega), g, if_neg (by omega), if_neg (by omega)]
      · rw [if_neg c1]
        by_cases c2 : t = i
        · rw [if_pos c2, if_neg (by omega), if_pos c2, g, if_pos rfl]
        · rw [if_neg c2, g]
          by_cases c3 : t = k + 1
          · rw [if_neg (by omega), if_pos c3, if_pos (by omega)]; congr 1; omega
          · rw [if_neg (by omega), if_neg c3, if_neg (by omega), if_neg c2]
    · rw [goDown_stop c]
      refine ⟨permIn_refl _ _ _, fun t => ?_⟩
      rw [if_neg (by omega)]
      by_cases c2 : t = i
      · rw [if_pos c2]; congr 1; omega
      · rw [if_neg c2]

variable {lt : α → α → Bool}
/-- 'Not less' both ways round. -/
theorem le_trans' (hS : SWO lt) {x y z : α} (h1 : lt y x = false) (h2 : lt z y = false) : lt z x = false := hS.ntrans z y x h2 h1
theorem sorted_le (hS : SWO lt) {a b : Nat} {d : Array α} (h : SortedIn lt a b d) {i j : Nat} (hi : a ≤ i) (hij : i ≤ j) (hj : j < b) : lt d[j]! d[i]! = false := by
  rcases Nat.lt_or_eq_of_le hij with c | c
  · exact h i j hi c hj
  · subst c; exact hS.irrefl _
/-- One on the left is merged. -/
theorem one_left (hS : SWO lt) {a b : Nat} {d : Array α} (hab : a + 1 ≤ b) (hb : b ≤ d.size) (hs : SortedIn lt (a + 1) b d) :
    PermIn a b d (goUp (halves (fun h => lt d[h]! d[a]!) (a + 1) b - 1) a d) ∧ SortedIn lt a b (goUp (halves (fun h => lt d[h]! d[a]!) (a + 1) b - 1) a d) := by
  obtain ⟨h1, h2, h3, h4⟩ := halves_spec (fun h => lt d[h]! d[a]!) (a + 1) b (fun x y hx hxy hy hp => by
    cases hq : lt d[x]! d[a]! with
    | true => rfl
    | false =>
      have := hS.ntrans _ _ _ (hs x y hx hxy hy) hq
      rw [this] at hp; cases hp) (b - (a + 1)) (a + 1) b (Nat.le_refl _) (Nat.le_refl _) hab (Nat.le_refl _) (fun t h1 h2 => by omega) (fun t h1 h2 => by omega)
  generalize halves (fun h => lt d[h]! d[a]!) (a + 1) b = s at h1 h2 h3 h4
  by_cases hb0 : a + 1 = b
  · have : s - 1 = a := by omega
    rw [this, goUp_stop (by omega)]
    exact ⟨permIn_refl _ _ _, fun i j hi hij hj => by omega⟩
  obtain ⟨r1, r2⟩ := goUp_spec (s - 1) a b (by omega) (s - 1 - a) a d (Nat.le_refl _) (Nat.le_refl _) (by omega) hb
  refine ⟨r1, fun i j hi hij hj => ?_⟩
  rw [r2 j, r2 i]
  by_cases cj : j < s - 1
  · rw [if_pos (by omega), if_pos (by omega)]
    exact hs _ _ (by omega) (by omega) (by omega)
  · rw [if_neg (by omega)]
    by_cases cj2 : j = s - 1
    · rw [if_pos cj2, if_pos (by omega)]
      exact hS.asymmA (h3 (i + 1) (by omega) (by omega))
    · rw [if_neg cj2]
      by_cases ci : i < s - 1
      · rw [if_pos (by omega)]
        exact hs _ _ (by omega) (by omega) (by omega)
      · rw [if_neg (by omega)]
        by_cases ci2 : i = s - 1
        · rw [if_pos ci2]
          exact h4 j (by omega) hj
        · rw [if_neg ci2]
          exact hs _ _ (by omega) hij hj
/-- One on the right is merged. -/
theorem one_right (hS : SWO lt) {a m : Nat} {d : Array α} (ham : a ≤ m) (hb : m + 1 ≤ d.size) (hs : SortedIn lt a m d) :
    PermIn a (m + 1) d (goDown (halves (fun h => !lt d[m]! d[h]!) a m) m d) ∧ SortedIn lt a (m + 1) (goDown (halves (fun h => !lt d[m]! d[h]!) a m) m d) := by
  obtain ⟨h1, h2, h3, h4⟩ := halves_spec (fun h => !lt d[m]! d[h]!) a m (fun x y hx hxy hy hp => by
    have hp' : lt d[m]! d[y]! = false := by simpa using hp
    have := hS.ntrans _ _ _ hp' (hs x y hx hxy hy)
    show (!lt d[m]! d[x]!) = true
    rw [this]; rfl) (m - a) a m (Nat.le_refl _) (Nat.le_refl _) ham (Nat.le_refl _) (fun t h1 h2 => by omega) (fun t h1 h2 => by omega)
  generalize halves (fun h => !lt d[m]! d[h]!) a m = s at h1 h2 h3 h4
  obtain ⟨r1, r2⟩ := goDown_spec s a (m + 1) h1 m d (by omega) h2 hb
  refine ⟨r1, fun i j hi hij hj => ?_⟩
  have h3' : ∀ t, a ≤ t → t < s → lt d[m]! d[t]! = false := fun t ht hts => by simpa using h3 t ht hts
  have h4' : ∀ t, s ≤ t → t < m → lt d[m]! d[t]! = true := fun t ht hts => by simpa using h4 t ht hts
  rw [r2 j, r2 i]
  by_cases cj : s < j
  · rw [if_pos (by omega)]
    by_cases ci : s < i
    · rw [if_pos (by omega)]
      exact hs _ _ (by omega) (by omega) (by omega)
    · rw [if_neg (by omega)]
      by_cases ci2 : i = s
      · rw [if_pos ci2]
        exact hS.asymmA (h4' (j - 1) (by omega) (by omega))
      · rw [if_neg ci2]
        exact hs _ _ (by omega) (by omega) (by omega)
  · rw [if_neg (by omega)]
    by_cases cj2 : j = s
    · rw [if_pos cj2, if_neg (by omega), if_neg (by omega)]
      exact h3' i hi (by omega)
    · rw [if_neg cj2, if_neg (by omega), if_neg (by omega)]
      exact hs _ _ hi hij (by omega)
/-- Where symMerge begins its search, and where it ends. -/
def symStart (a m b : Nat) : Nat := if (a + b) / 2 < m then (a + b) / 2 + m - b else a
def symEnd (a m b : Nat) : Nat := if (a + b) / 2 < m then (a + b) / 2 else m
def symAt (lt : α → α → Bool) (a m b : Nat) (d : Array α) : Nat := halves (fun c => !lt d[(a + b) / 2 + m - 1 - c]! d[c]!) (symStart a m b) (symEnd a m b)
/-- What the rotation leaves. -/
structure Split (lt : α → α → Bool) (a s mid e b : Nat) (d d1 : Array α) : Prop where
  perm : PermIn a b d d1
  s1 : SortedIn lt a s d1
  s2 : SortedIn lt s mid d1
  s3 : SortedIn lt mid e d1
  s4 : SortedIn lt e b d1
  low : ∀ t u, a ≤ t → t < mid → mid ≤ u → u < b → lt d1[u]! d1[t]! = false
theorem sym_split (hS : SWO lt) {a m b : Nat} {d : Array α} (ham : a < m) (hmb : m < b) (hb : b ≤ d.size) (hl : SortedIn lt a m d) (hr : SortedIn lt m b d) :
    a ≤ symAt lt a m b d ∧ symAt lt a m b d ≤ m ∧ symAt lt a m b d ≤ (a + b) / 2 ∧ (a + b) / 2 ≤ (a + b) / 2 + m - symAt lt a m b d ∧ m ≤ (a + b) / 2 + m - symAt lt a m b d ∧ (a + b) / 2 + m - symAt lt a m b d ≤ b ∧
    Split lt a (symAt lt a m b d) ((a + b) / 2) ((a + b) / 2 + m - symAt lt a m b d) b d (rotFrom m (m - symAt lt a m b d) ((a + b) / 2 + m - symAt lt a m b d - m) d) := by
  have hmid : a ≤ (a + b) / 2 ∧ (a + b) / 2 < b := by omega
  have hse : a ≤ symStart a m b ∧ symStart a m b ≤ symEnd a m b ∧ symEnd a m b ≤ m ∧ symEnd a m b ≤ (a + b) / 2 ∧ (a + b) / 2 + m ≤ b + symStart a m b := by
    unfold symStart symEnd
    by_cases c : (a + b) / 2 < m
    · rw [if_pos c, if_pos c]; omega
    · rw [if_neg c, if_neg c]; omega
  have hs0 : symStart a m b = a ∨ symStart a m b + b = (a + b) / 2 + m := by
    unfold symStart
    by_cases c : (a + b) / 2 < m
    · rw [if_pos c]; omega
    · rw [if_neg c]; omega
  have he0 : symEnd a m b = m ∨ symEnd a m b = (a + b) / 2 := by
    unfold symEnd
    by_cases c : (a + b) / 2 < m
    · rw [if_pos c]; omega
    · rw [if_neg c]; omega
  unfold symAt
  generalize symStart a m b = s0 at hse hs0 ⊢
  generalize symEnd a m b = e0 at hse he0 ⊢
  generalize hmm : (a + b) / 2 = mid at *
  obtain ⟨h1, h2, h3, h4⟩ := halves_spec (fun c => !lt d[mid + m - 1 - c]! d[c]!) s0 e0 (fun x y hx hxy hy hp => by
    have hp' : lt d[mid + m - 1 - y]! d[y]! = false := by simpa using hp
    show (!lt d[mid + m - 1 - x]! d[x]!) = true
    have a1 := hS.ntrans _ _ _ hp' (hl x y (by omega) hxy (by omega))
    have a2 := hS.ntrans _ _ _ (hr (mid + m - 1 - y) (mid + m - 1 - x) (by omega) (by omega) (by omega)) a1
    rw [a2]; rfl) (e0 - s0) s0 e0 (Nat.le_refl _) (Nat.le_refl _) (by omega) (Nat.le_refl _) (fun t h1 h2 => by omega) (fun t h1 h2 => by omega)
  generalize halves (fun c => !lt d[mid + m - 1 - c]! d[c]!) s0 e0 = s at h1 h2 h3 h4
  have h3' : ∀ t, s0 ≤ t → t < s → lt d[mid + m - 1 - t]! d[t]! = false := fun t ht hts => by simpa using h3 t ht hts
  have h4' : ∀ t, s ≤ t → t < e0 → lt d[mid + m - 1 - t]! d[t]! = true := fun t ht hts => by simpa using h4 t ht hts
  refine ⟨by omega, by omega, by omega, by omega, by omega, by omega, ?_⟩
  -- what stands where
  have key : PermIn a b d (rotFrom m (m - s) (mid + m - s - m) d) ∧ ∀ t, (rotFrom m (m - s) (mid + m - s - m) d)[t]! = if s ≤ t ∧ t < mid then d[t + (m - s)]! else if mid ≤ t ∧ t < mid + m - s then d[t - (mid - s)]! else d[t]! := by
    by_cases c : 0 < m - s ∧ 0 < mid + m - s - m
    · obtain ⟨_, r2, r3⟩ := rotFrom_spec m (m - s + (mid + m - s - m)) (m - s) (mid + m - s - m) d (Nat.le_refl _) c.1 c.2 (by omega) (by omega)
      refine ⟨r3 a b (by omega) (by omega) hb, fun t => ?_⟩
      rw [r2]
      by_cases c1 : s ≤ t ∧ t < mid
      · rw [if_pos (by omega), if_pos c1]
      · rw [if_neg (by omega), if_neg c1]
        by_cases c2 : mid ≤ t ∧ t < mid + m - s
        · rw [if_pos (by omega), if_pos c2]; congr 1; omega
        · rw [if_neg (by omega), if_neg c2]
    · have : rotFrom m (m - s) (mid + m - s - m) d = d := by rw [rotFrom, dif_pos (by omega)]
      rw [this]
      refine ⟨permIn_refl _ _ _, fun t => ?_⟩
      by_cases c1 : s ≤ t ∧ t < mid
      · rw [if_pos c1]; congr 1; omega
      · rw [if_neg c1]
        by_cases c2 : mid ≤ t ∧ t < mid + m - s
        · rw [if_pos c2]; congr 1; omega
        · rw [if_neg c2]
  obtain ⟨hp, g⟩ := key
  generalize rotFrom m (m - s) (mid + m - s - m) d = d1 at hp g ⊢
  have g1 : ∀ t, t < s → d1[t]! = d[t]! := fun t ht => by rw [g, if_neg (by omega), if_neg (by omega)]
  have g2 : ∀ t, s ≤ t → t < mid → d1[t]! = d[t + (m - s)]! := fun t h h' => by rw [g, if_pos ⟨h, h'⟩]
  have g3 : ∀ t, mid ≤ t → t < mid + m - s → d1[t]! = d[t - (mid - s)]! := fun t h h' => by rw [g, if_neg (by omega), if_pos ⟨h, h'⟩]
  have g4 : ∀ t, mid + m - s ≤ t → d1[t]! = d[t]! := fun t h => by rw [g, if_neg (by omega), if_neg (by omega)]
  refine ⟨hp, fun i j hi hij hj => ?_, fun i j hi hij hj => ?_, fun i j hi hij hj => ?_, fun i j hi hij hj => ?_, fun t u ht htm hu hub => ?_⟩
  · rw [g1 i (by omega), g1 j hj]; exact hl i j hi hij (by omega)
  · rw [g2 i hi (by omega), g2 j (by omega) hj]; exact hr _ _ (by omega) (by omega) (by omega)
  · rw [g3 i hi (by omega), g3 j (by omega) hj]; exact hl _ _ (by omega) (by omega) (by omega)
  · rw [g4 i hi, g4 j (by omega)]; exact hr _ _ (by omega) hij hj
  · by_cases ct : t < s
    · rw [g1 t ct]
      by_cases cu : u < mid + m - s
      · rw [g3 u hu cu]; exact sorted_le hS hl ht (by omega) (by omega)
      · rw [g4 u (by omega)]
        -- the last of A1, the first of B2
        have hs1 : s0 < s ∨ s0 = s := by omega
        rcases hs1 with hs1 | hs1
        · have k1 := h3' (s - 1) (by omega) (by omega)
          have k2 := sorted_le hS hl (i := t) (j := s - 1) ht (by omega) (by omega)
          have k3 := sorted_le hS hr (i := mid + m - 1 - (s - 1)) (j := u) (by omega) (by omega) hub
          exact hS.ntrans _ _ _ k3 (hS.ntrans _ _ _ k1 k2)
        · omega
    · rw [g2 t (by omega) htm]
      by_cases cu : u < mid + m - s
      · rw [g3 u hu cu]
        have k1 := h4' s (Nat.le_refl _) (by omega)
        have k2 := sorted_le hS hr (i := t + (m - s)) (j := mid + m - 1 - s) (by omega) (by omega) (by omega)
        have k3 := sorted_le hS hl (i := s) (j := u - (mid - s)) (by omega) (by omega) (by omega)
        exact hS.ntrans _ _ _ k3 (hS.ntrans _ _ _ (hS.asymmA k1) k2)
      · rw [g4 u (by omega)]; exact sorted_le hS hr (by omega) (by omega) hub
/-- What holds of all behind a permutation of a part, outside. -/
theorem perm_out {a b : Nat} {d d' : Array α} (h : PermIn a b d d') {t : Nat} (ht : t < a ∨ b ≤ t) : d'[t]! = d[t]! := h.2.1 t ht
/-- Both halves are in order: so is all. -/
theorem sym_join (hS : SWO lt) {a s mid e b : Nat} {d d1 d2 d3 : Array α} (hb : b ≤ d.size) (h1 : a ≤ s) (h2 : s ≤ mid) (h3 : mid ≤ e) (h4 : e ≤ b) (hA : a ≤ mid) (hB : mid ≤ b) (X : Split lt a s mid e b d d1)
    (p1 : PermIn a mid d1 d2) (o1 : SortedIn lt a mid d2) (p2 : PermIn mid b d2 d3) (o2 : SortedIn lt mid b d3) : PermIn a b d d3 ∧ SortedIn lt a b d3 := by
  have z1 : d1.size = d.size := X.perm.1
  have z2 : d2.size = d1.size := p1.1
  refine ⟨permIn_trans _ _ _ _ _ X.perm (permIn_trans _ _ _ _ _ (permIn_mono d1 d2 a mid a b (Nat.le_refl _) hB (by omega) p1) (permIn_mono d2 d3 mid b a b hA (Nat.le_refl _) (by omega) p2)), fun i j hi hij hj => ?_⟩
  by_cases cj : j < mid
  · rw [perm_out p2 (.inl cj), perm_out p2 (t := i) (.inl (by omega))]
    exact o1 i j hi hij cj
  · by_cases ci : i < mid
    · rw [perm_out p2 (t := i) (.inl ci)]
      have low2 : ∀ t, a ≤ t → t < mid → ∀ u, mid ≤ u → u < b → lt d2[u]! d2[t]! = false := by
        refine permIn_all d1 d2 a mid (fun x => ∀ u, mid ≤ u → u < b → lt d2[u]! x = false) (by omega) p1 (fun t ht htm u hu hub => ?_)
        rw [perm_out p1 (.inr hu)]
        exact X.low t u ht htm hu hub
      exact permIn_all d2 d3 mid b (fun x => lt x d2[i]! = false) (by omega) p2 (fun u hu hub => low2 i hi ci u hu hub) j (by omega) hj
    · exact o2 i j (by omega) hij hj
/-- Two runs, one of them empty, are one. -/
theorem sorted_of_empty {a s mid : Nat} {d : Array α} (h1 : SortedIn lt a s d) (h2 : SortedIn lt s mid d) (hc : ¬ (a < s ∧ s < mid)) (ha : a ≤ s) (hs : s ≤ mid) : SortedIn lt a mid d := by
  by_cases c : a = s
  · subst c; exact h2
  · have : s = mid := by omega
    subst this; exact h1
/-- Blocks of so many are in order. -/
def BlocksIn (lt : α → α → Bool) (bs lo hi : Nat) (d : Array α) : Prop := ∀ i j, lo ≤ i → i < j → j < hi → i / bs = j / bs → lt d[j]! d[i]! = false
theorem blocks_step {bs a b q : Nat} {d d' : Array α} (hbs : 0 < bs) (h : BlocksIn lt bs 0 a d) (hp : PermIn a b d d') (hs : SortedIn lt a b d') (ha : a = bs * q) : BlocksIn lt bs 0 b d' := by
  intro i j hi hij hj he
  by_cases c : j < a
  · rw [hp.2.1 i (.inl (by omega)), hp.2.1 j (.inl c)]
    exact h i j hi hij c he
  · refine hs i j ?_ hij hj
    have h1 : q ≤ j / bs := (Nat.le_div_iff_mul_le hbs).2 (by rw [Nat.mul_comm]; omega)
    rw [← he] at h1
    have h2 := (Nat.le_div_iff_mul_le hbs).1 h1
    rw [Nat.mul_comm] at h2
    omega
theorem blocks_sorted {bs lo hi x y q : Nat} {d : Array α} (hbs : 0 < bs) (h : BlocksIn lt bs lo hi d) (h1 : lo ≤ x) (h2 : y ≤ hi) (hx : x = bs * q) (hy : y ≤ x + bs) : SortedIn lt x y d := by
  intro i j hi' hij hj
  have key : ∀ t, x ≤ t → t < y → t / bs = q := fun t ht hty => by
    refine Nat.div_eq_of_lt_le (by rw [Nat.mul_comm]; omega) ?_
    rw [Nat.mul_comm, Nat.mul_add, Nat.mul_one]; omega
  exact h i j (by omega) hij (by omega) (by rw [key i hi' (by omega), key j (by omega) hj])
theorem blocks_keep {bs lo hi a b lo' : Nat} {d d' : Array α} (h : BlocksIn lt bs lo hi d) (hp : PermIn a b d d') (h1 : b ≤ lo') (h2 : lo ≤ lo') : BlocksIn lt bs lo' hi d' := by
  intro i j hi' hij hj he
  rw [hp.2.1 i (.inr (by omega)), hp.2.1 j (.inr (by omega))]
  exact h i j (by omega) hij hj he
theorem blocks_none {bs hi : Nat} {d : Array α} : BlocksIn lt bs 0 0 d := fun i j _ _ h _ => absurd h (Nat.not_lt_zero _)
theorem blocks_all {bs n : Nat} {d : Array α} (h : BlocksIn lt bs 0 n d) (hn : n ≤ bs) : SortedIn lt 0 n d := fun i j hi hij hj => h i j hi hij hj (by rw [Nat.div_eq_of_lt (by omega), Nat.div_eq_of_lt (by omega)])
end Go.Proofs.YtkdhaipjfkalfaaGreatDoor
