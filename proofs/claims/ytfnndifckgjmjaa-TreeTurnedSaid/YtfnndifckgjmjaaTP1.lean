/- Contracts of the functions that the statement reaches, one behind the other. No condition beyond each theorem's own. -/
import Derived.WalkKit
import Derived.Test.YtfnndifckgjmjaaMemB
import Derived.Laws.Entries
import Derived.Test.YtfnndifckgjmjaaRows
import Derived.Lib.Hide
import Derived.Test.YtfnndifckgjmjaaPlan
import Derived.Lib.SliceRun
import Derived.Laws.Cover1
import Derived.Lib.AppendZerosOnto
import Derived.Lib.Overlaps
set_option linter.unusedSimpArgs false
set_option linter.unusedVariables false
/- Plain: a tree of pages, and the list of its entries. -/
namespace Go.Afx
open Go

abbrev Key := List UInt8
theorem klt_irrefl : ∀ a : Key, Op.bytesLess a a = false
  | [] => rfl
  | c :: a => by simp [Op.bytesLess, klt_irrefl a]
theorem klt_trans : ∀ a b c : Key, Op.bytesLess a b = true → Op.bytesLess b c = true → Op.bytesLess a c = true
  | _, [], _, h, _ => by simp [Op.bytesLess] at h
  | _, _ :: _, [], _, h => by simp [Op.bytesLess] at h
  | [], y :: b, z :: c, _, _ => rfl
  | x :: a, y :: b, z :: c, h, k => by
    simp only [Op.bytesLess, Bool.or_eq_true, Bool.and_eq_true, decide_eq_true_eq, beq_iff_eq] at h k ⊢
    rcases h with h | ⟨rfl, h⟩
    · rcases k with k | ⟨rfl, k⟩
      · exact .inl (UInt8.lt_trans h k)
      · exact .inl h
    · rcases k with k | ⟨rfl, k⟩
      · exact .inl k
      · exact .inr ⟨rfl, klt_trans a b c h k⟩
theorem klt_asymm (a b : Key) (h : Op.bytesLess a b = true) : Op.bytesLess b a = false := by
  cases hb : Op.bytesLess b a with
  | false => rfl
  | true => have := klt_trans a b a h hb; rw [klt_irrefl] at this; cases this
theorem klt_total : ∀ a b : Key, Op.bytesLess a b = false → a ≠ b → Op.bytesLess b a = true
  | [], [], _, h => absurd rfl h
  | [], c :: b, h, _ => by simp [Op.bytesLess] at h
  | c :: a, [], _, _ => rfl
  | c :: a, d :: b, h, k => by
    simp only [Op.bytesLess, Bool.or_eq_false_iff, decide_eq_false_iff_not] at h
    simp only [Op.bytesLess, Bool.or_eq_true, Bool.and_eq_true, decide_eq_true_eq, beq_iff_eq]
    by_cases h1 : c = d
    · subst h1
      have h2 : Op.bytesLess a b = false := by simpa using h.2
      exact .inr ⟨rfl, klt_total a b h2 (fun e => k (by rw [e]))⟩
    · rcases UInt8.lt_or_lt_of_ne h1 with h3 | h3
      · exact absurd h3 h.1
      · exact .inl h3
theorem klt_ne {a b : Key} (h : Op.bytesLess a b = true) : a ≠ b := fun e => by rw [e, klt_irrefl] at h; cases h

/-- A key with its value. -/
structure En where
  key : Key
  val : Value
/-- Pages. -/
inductive T where
  | node (es : List En) (ts : List T)
def T.es : T → List En | .node es _ => es
def T.ts : T → List T | .node _ ts => ts

/-- How many keys are less. -/
def pos (k : Key) : List En → Nat
  | [] => 0
  | e :: r => if Op.bytesLess e.key k then pos k r + 1 else 0
def has (k : Key) (l : List En) : Bool := match l[pos k l]? with
  | some e => e.key == k
  | none => false
/-- The value of a key. -/
def look (k : Key) (l : List En) : Option Value := (l.find? fun e => e.key == k).map En.val
/-- With a key's value; without a key. -/
def ins (k : Key) (v : Value) : List En → List En
  | [] => [⟨k, v⟩]
  | e :: r => if Op.bytesLess e.key k then e :: ins k v r else if e.key = k then ⟨k, v⟩ :: r else ⟨k, v⟩ :: e :: r
def del (k : Key) : List En → List En
  | [] => []
  | e :: r => if Op.bytesLess e.key k then e :: del k r else if e.key = k then r else e :: r
def Rise (l : List En) : Prop := l.Pairwise fun a b => Op.bytesLess a.key b.key = true

theorem Rise.left {a b : List En} (h : Rise (a ++ b)) : Rise a := (List.pairwise_append.1 h).1
theorem Rise.right {a b : List En} (h : Rise (a ++ b)) : Rise b := (List.pairwise_append.1 h).2.1
theorem Rise.cross {a b : List En} (h : Rise (a ++ b)) : ∀ x ∈ a, ∀ y ∈ b, Op.bytesLess x.key y.key = true := (List.pairwise_append.1 h).2.2

theorem pos_le (k : Key) : ∀ l : List En, pos k l ≤ l.length
  | [] => Nat.le_refl _
  | e :: r => by unfold pos; have := pos_le k r; split <;> simp; omega
/-- Keys part a rising list. -/
theorem pos_split (k : Key) : ∀ (l : List En), Rise l → ∃ a b, l = a ++ b ∧ a.length = pos k l ∧ (∀ x ∈ a, Op.bytesLess x.key k = true) ∧
    ((has k l = true ∧ ∃ v r, b = ⟨k, v⟩ :: r ∧ ∀ x ∈ r, Op.bytesLess k x.key = true) ∨ (has k l = false ∧ ∀ x ∈ b, Op.bytesLess k x.key = true))
  | [], _ => ⟨[], [], rfl, rfl, by simp, .inr ⟨rfl, by simp⟩⟩
  | e :: r, h => by
    have h2 : Rise r := (List.pairwise_cons.1 h).2
    have h1 := (List.pairwise_cons.1 h).1
    by_cases hl : Op.bytesLess e.key k = true
    · obtain ⟨a, b, h3, h4, h5, h6⟩ := pos_split k r h2
      have hp : pos k (e :: r) = pos k r + 1 := by rw [pos, if_pos hl]
      have hh : has k (e :: r) = has k r := by unfold has; rw [hp]; simp
      refine ⟨e :: a, b, by rw [h3]; rfl, by rw [hp, ← h4]; rfl, ?_, by rw [hh]; exact h6⟩
      intro x hx
      rcases List.mem_cons.1 hx with rfl | hx
      · exact hl
      · exact h5 x hx
    · have hp : pos k (e :: r) = 0 := by rw [pos, if_neg hl]
      rw [Bool.not_eq_true] at hl
      refine ⟨[], e :: r, rfl, by rw [hp]; rfl, by simp, ?_⟩
      by_cases hk : e.key = k
      · refine .inl ⟨by unfold has; rw [hp]; simp [hk], e.val, r, by rw [← hk], fun x hx => by rw [← hk]; exact h1 x hx⟩
      · have hk2 := klt_total _ _ hl hk
        refine .inr ⟨by unfold has; rw [hp]; simp [hk], fun x hx => ?_⟩
        rcases List.mem_cons.1 hx with rfl | hx
        · exact hk2
        · exact klt_trans _ _ _ hk2 (h1 x hx)

theorem ins_left {k : Key} {v : Value} : ∀ {a b : List En}, (∀ x ∈ a, Op.bytesLess x.key k = true) → ins k v (a ++ b) = a ++ ins k v b
  | [], _, _ => rfl
  | e :: a, b, h => by rw [List.cons_append, ins, if_pos (h e (by simp)), ins_left (fun x hx => h x (by simp [hx]))]; rfl
theorem del_left {k : Key} : ∀ {a b : List En}, (∀ x ∈ a, Op.bytesLess x.key k = true) → del k (a ++ b) = a ++ del k b
  | [], _, _ => rfl
  | e :: a, b, h => by rw [List.cons_append, del, if_pos (h e (by simp)), del_left (fun x hx => h x (by simp [hx]))]; rfl
theorem ins_above {k : Key} {v : Value} {b : List En} (h : ∀ x ∈ b, Op.bytesLess k x.key = true) : ins k v b = ⟨k, v⟩ :: b := by
  cases b with
  | nil => rfl
  | cons e r =>
    have h1 := h e (by simp)
    rw [ins, if_neg (by rw [klt_asymm _ _ h1]; simp), if_neg (fun e' => klt_ne h1 e'.symm)]
theorem del_above {k : Key} {b : List En} (h : ∀ x ∈ b, Op.bytesLess k x.key = true) : del k b = b := by
  cases b with
  | nil => rfl
  | cons e r =>
    have h1 := h e (by simp)
    rw [del, if_neg (by rw [klt_asymm _ _ h1]; simp), if_neg (fun e' => klt_ne h1 e'.symm)]
theorem ins_right {k : Key} {v : Value} : ∀ {a b : List En}, (∀ x ∈ b, Op.bytesLess k x.key = true) → ins k v (a ++ b) = ins k v a ++ b
  | [], b, h => by rw [List.nil_append, ins_above h]; rfl
  | e :: a, b, h => by
    rw [List.cons_append, ins, ins]
    split
    · rw [ins_right h]; rfl
    · split <;> rfl
theorem del_right {k : Key} : ∀ {a b : List En}, (∀ x ∈ b, Op.bytesLess k x.key = true) → del k (a ++ b) = del k a ++ b
  | [], b, h => by rw [List.nil_append, del_above h]; rfl
  | e :: a, b, h => by
    rw [List.cons_append, del, del]
    split
    · rw [del_right h]; rfl
    · split <;> rfl
theorem ins_hit {k : Key} {v u : Value} {r : List En} : ins k v (⟨k, u⟩ :: r) = ⟨k, v⟩ :: r := by rw [ins, if_neg (by rw [klt_irrefl]; simp), if_pos rfl]
theorem del_hit {k : Key} {u : Value} {r : List En} : del k (⟨k, u⟩ :: r) = r := by rw [del, if_neg (by rw [klt_irrefl]; simp), if_pos rfl]
theorem mem_ins {k : Key} {v : Value} : ∀ {l : List En} {x : En}, x ∈ ins k v l → x = ⟨k, v⟩ ∨ x ∈ l
  | [], x, h => .inl (by simpa [ins] using h)
  | e :: r, x, h => by
    rw [ins] at h
    split at h
    · rcases List.mem_cons.1 h with rfl | h
      · exact .inr (by simp)
      · rcases mem_ins h with h | h
        · exact .inl h
        · exact .inr (by simp [h])
    · split at h
      · rcases List.mem_cons.1 h with h | h
        · exact .inl h
        · exact .inr (by simp [h])
      · rcases List.mem_cons.1 h with h | h
        · exact .inl h
        · exact .inr h
theorem mem_del {k : Key} : ∀ {l : List En} {x : En}, x ∈ del k l → x ∈ l
  | [], x, h => by simp [del] at h
  | e :: r, x, h => by
    rw [del] at h
    split at h
    · rcases List.mem_cons.1 h with rfl | h
      · simp
      · simp [mem_del h]
    · split at h
      · simp [h]
      · exact h
theorem Rise.ins {k : Key} {v : Value} : ∀ {l : List En}, Rise l → Rise (ins k v l)
  | [], _ => by simp [Afx.ins, Rise]
  | e :: r, h => by
    obtain ⟨h1, h2⟩ := List.pairwise_cons.1 h
    rw [Afx.ins]
    split
    · rename_i hl
      refine List.pairwise_cons.2 ⟨fun x hx => ?_, Rise.ins h2⟩
      rcases mem_ins hx with rfl | hx
      · exact hl
      · exact h1 x hx
    · rename_i hl
      rw [Bool.not_eq_true] at hl
      split
      · rename_i hk
        exact List.pairwise_cons.2 ⟨fun x hx => by rw [← hk]; exact h1 x hx, h2⟩
      · rename_i hk
        have h3 := klt_total _ _ hl hk
        refine List.pairwise_cons.2 ⟨fun x hx => ?_, h⟩
        rcases List.mem_cons.1 hx with rfl | hx
        · exact h3
        · exact klt_trans _ _ _ h3 (h1 x hx)
theorem Rise.del {k : Key} : ∀ {l : List En}, Rise l → Rise (del k l)
  | [], h => h
  | e :: r, h => by
    obtain ⟨h1, h2⟩ := List.pairwise_cons.1 h
    rw [Afx.del]
    split
    · exact List.pairwise_cons.2 ⟨fun x hx => h1 x (mem_del hx), Rise.del h2⟩
    · split
      · exact h2
      · exact h
theorem ins_length (k : Key) (v : Value) : ∀ l : List En, (ins k v l).length ≤ l.length + 1
  | [] => by simp [ins]
  | e :: r => by
    have := ins_length k v r
    rw [ins]; split
    · simp; omega
    · split <;> simp
theorem del_length (k : Key) : ∀ l : List En, (del k l).length ≤ l.length
  | [] => by simp [del]
  | e :: r => by
    have := del_length k r
    rw [del]; split
    · simp; omega
    · split <;> simp

-- the list of a tree's entries
mutual
def T.flat : T → List En
  | .node es ts => T.flatL es ts
def T.flatL : List En → List T → List En
  | es, [] => es
  | [], t :: ts => t.flat ++ T.flatL [] ts
  | e :: es, t :: ts => t.flat ++ e :: T.flatL es ts
end
theorem flat_node (es : List En) (ts : List T) : (T.node es ts).flat = T.flatL es ts := by rw [T.flat]
theorem flatL_nil (es : List En) : T.flatL es [] = es := by cases es <;> rfl
theorem flatL_end (t : T) (ts : List T) : T.flatL [] (t :: ts) = t.flat ++ T.flatL [] ts := by rw [T.flatL]
theorem flatL_cons (e : En) (es : List En) (t : T) (ts : List T) : T.flatL (e :: es) (t :: ts) = t.flat ++ e :: T.flatL es ts := by rw [T.flatL]
/-- What stands ahead of a page: the pages and entries ahead of it. -/
def wl : List En → List T → List En
  | e :: es, t :: ts => t.flat ++ e :: wl es ts
  | _, _ => []
/-- What stands behind it. -/
def tl : List En → List T → List En
  | [], ts => T.flatL [] ts
  | e :: es, ts => e :: T.flatL es ts
theorem flatL_split : ∀ (a : List En) (l : List T) (b : List En) (r : List T), a.length = l.length → T.flatL (a ++ b) (l ++ r) = wl a l ++ T.flatL b r
  | [], [], _, _, _ => rfl
  | e :: a, t :: l, b, r, h => by rw [List.cons_append, List.cons_append, flatL_cons, flatL_split a l b r (by simpa using h), wl, List.append_assoc]; rfl
theorem flatL_tl (b : List En) (c : T) (r : List T) : T.flatL b (c :: r) = c.flat ++ tl b r := by
  cases b with
  | nil => rw [flatL_end, tl]
  | cons e b => rw [flatL_cons, tl]
theorem flat_at (a b : List En) (l : List T) (c : T) (r : List T) (h : a.length = l.length) : (T.node (a ++ b) (l ++ c :: r)).flat = wl a l ++ (c.flat ++ tl b r) := by
  rw [flat_node, flatL_split a l b (c :: r) h, flatL_tl]
theorem tl_nil : tl [] [] = [] := by rw [tl, flatL_nil]
theorem tl_cons (e : En) (b : List En) (c : T) (r : List T) : tl (e :: b) (c :: r) = e :: (c.flat ++ tl b r) := by rw [tl, flatL_tl]
theorem wl_snoc : ∀ (a : List En) (l : List T) (e : En) (t : T), a.length = l.length → wl (a ++ [e]) (l ++ [t]) = wl a l ++ (t.flat ++ [e])
  | [], [], e, t, _ => by simp [wl]
  | x :: a, y :: l, e, t, h => by
    rw [List.cons_append, List.cons_append, wl, wl_snoc a l e t (by simpa using h), wl]
    simp
theorem wl_mem : ∀ {a : List En} {l : List T} {e : En}, a.length = l.length → e ∈ a → e ∈ wl a l
  | x :: a, y :: l, e, h, he => by
    rw [wl]
    rcases List.mem_cons.1 he with rfl | he
    · simp
    · have := wl_mem (l := l) (by simpa using h) he
      simp [this]
theorem wl_less {k : Key} : ∀ {a : List En} {l : List T}, a.length = l.length → Rise (wl a l) → (∀ x ∈ a, Op.bytesLess x.key k = true) → ∀ x ∈ wl a l, Op.bytesLess x.key k = true
  | [], [], _, _, _, x, hx => by simp [wl] at hx
  | e :: a, t :: l, h, hr, ha, x, hx => by
    rw [wl] at hr hx
    have he := ha e (by simp)
    have h2 : Rise (wl a l) := by
      have := hr.right
      exact (List.pairwise_cons.1 this).2
    rcases List.mem_append.1 hx with hx | hx
    · exact klt_trans _ _ _ (hr.cross x hx e (by simp)) he
    · rcases List.mem_cons.1 hx with rfl | hx
      · exact he
      · exact wl_less (by simpa using h) h2 (fun x hx => ha x (by simp [hx])) x hx
theorem tl_more {k : Key} {b : List En} {r : List T} (h : b.length = r.length) (hr : Rise (tl b r)) (hb : ∀ x ∈ b, Op.bytesLess k x.key = true) : ∀ x ∈ tl b r, Op.bytesLess k x.key = true := by
  cases b with
  | nil =>
    cases r with
    | nil => intro x hx; simp [tl, flatL_nil] at hx
    | cons t r => simp at h
  | cons e b =>
    intro x hx
    rw [tl] at hx hr
    have he := hb e (by simp)
    rcases List.mem_cons.1 hx with rfl | hx
    · exact he
    · exact klt_trans _ _ _ he ((List.pairwise_cons.1 hr).1 x hx)

/-- Pages as deep as one another, each with enough entries: at least m on top, at least two below. -/
def Fat : Nat → Nat → T → Prop
  | m, 0, .node es ts => m ≤ es.length ∧ ts = []
  | m, d + 1, .node es ts => m ≤ es.length ∧ ts.length = es.length + 1 ∧ ∀ c ∈ ts, Fat 2 d c
theorem Fat.weaken {m m' d : Nat} {t : T} (h : Fat m d t) (hm : m' ≤ m) : Fat m' d t := by
  cases t with
  | node es ts => cases d with
    | zero => exact ⟨by have := h.1; omega, h.2⟩
    | succ d => exact ⟨by have := h.1; omega, h.2⟩

def insAt {α : Type} (i : Nat) (x : α) (l : List α) : List α := l.take i ++ x :: l.drop i
/-- The two parts of a page that is too great, and what stands between them. -/
def leftT (c : T) : T := .node (c.es.take 2) (c.ts.take 3)
def rightT (c : T) : T := .node (c.es.drop 3) (c.ts.drop 3)
def midT (c : T) : En := c.es.getD 2 ⟨[], undef⟩
def splitT (i : Nat) (es : List En) (ts : List T) (c : T) : T := .node (insAt i (midT c) es) (ts.take i ++ leftT c :: rightT c :: ts.drop (i + 1))
/-- A page with a key put; it may have one too many. -/
def putT (k : Key) (v : Value) : Nat → T → T
  | 0, .node es ts => if has k es then .node (es.set (pos k es) ⟨k, v⟩) ts else .node (insAt (pos k es) ⟨k, v⟩ es) ts
  | d + 1, .node es ts => if has k es then .node (es.set (pos k es) ⟨k, v⟩) ts else
      match ts[pos k es]? with
      | some c => if 5 < (putT k v d c).es.length then splitT (pos k es) es ts (putT k v d c) else .node es (ts.set (pos k es) (putT k v d c))
      | none => .node es ts
/-- A tree's pages with a key put; its depth. -/
def putTop (k : Key) (v : Value) (d : Nat) (t : T) : Nat × T :=
  if 5 < (putT k v d t).es.length then (d + 1, splitT 0 [] [putT k v d t] (putT k v d t)) else (d, putT k v d t)

theorem split_flat (c : T) (h : 5 < c.es.length) (hd : c.ts = [] ∨ c.ts.length = c.es.length + 1) : (leftT c).flat ++ midT c :: (rightT c).flat = c.flat := by
  cases c with
  | node es ts =>
    simp only [leftT, rightT, midT, T.es, T.ts] at *
    match es, h with
    | e0 :: e1 :: e2 :: e3 :: e4 :: e5 :: es, _ =>
      rcases hd with rfl | hd
      · simp [flat_node, flatL_nil]
      · match ts, hd with
        | t0 :: t1 :: t2 :: t3 :: ts, _ => simp [flat_node, flatL_cons, flatL_end, flatL_nil]
        | [], hd => simp at hd
        | [t0], hd => simp at hd
        | [t0, t1], hd => simp at hd
        | [t0, t1, t2], hd => simp at hd
theorem Fat.shape {m d : Nat} {c : T} (h : Fat m d c) : (d = 0 ∧ c.ts = []) ∨ (0 < d ∧ c.ts.length = c.es.length + 1) := by
  cases c with
  | node es ts => cases d with
    | zero => exact .inl ⟨rfl, h.2⟩
    | succ d => exact .inr ⟨by omega, h.2.1⟩
theorem Fat.left {m d : Nat} {c : T} (h : Fat m d c) (hl : 5 < c.es.length) : Fat 2 d (leftT c) ∧ Fat 2 d (rightT c) := by
  cases c with
  | node es ts =>
    simp only [leftT, rightT, T.es, T.ts] at *
    cases d with
    | zero =>
      obtain ⟨_, rfl⟩ := h
      exact ⟨⟨by simp; omega, by simp⟩, ⟨by simp; omega, by simp⟩⟩
    | succ d =>
      obtain ⟨_, h2, h3⟩ := h
      exact ⟨⟨by simp; omega, by simp; omega, fun x hx => h3 x (List.mem_of_mem_take hx)⟩, ⟨by simp; omega, by simp; omega, fun x hx => h3 x (List.mem_of_mem_drop hx)⟩⟩

theorem take_len {α : Type} {a b : List α} {n : Nat} (h : a.length = n) : (a ++ b).take n = a := by subst h; simp
theorem drop_len {α : Type} {a b : List α} {n : Nat} (h : a.length = n) : (a ++ b).drop n = b := by subst h; simp
theorem insAt_len {α : Type} {a b : List α} {n : Nat} {x : α} (h : a.length = n) : insAt n x (a ++ b) = a ++ x :: b := by unfold insAt; rw [take_len h, drop_len h]
theorem set_len {α : Type} {a b : List α} {n : Nat} {x y : α} (h : a.length = n) : (a ++ x :: b).set n y = a ++ y :: b := by subst h; simp
theorem get_len {α : Type} {a b : List α} {n : Nat} {x : α} (h : a.length = n) : (a ++ x :: b)[n]? = some x := by subst h; simp
theorem drop_len1 {α : Type} {a b : List α} {n : Nat} {x : α} (h : a.length = n) : (a ++ x :: b).drop (n + 1) = b := by
  subst h
  have : a ++ x :: b = (a ++ [x]) ++ b := by simp
  rw [this, drop_len (by simp)]
/-- A list of so many pages, parted at a page. -/
theorem part_at {α : Type} (l : List α) (i : Nat) (h : i < l.length) : ∃ a x b, l = a ++ x :: b ∧ a.length = i ∧ l[i]? = some x :=
  ⟨l.take i, l[i], l.drop (i + 1), by rw [← List.drop_eq_getElem_cons h, List.take_append_drop], by rw [List.length_take]; omega, List.getElem?_eq_getElem h⟩

/-- Where a key isn't, a page's entries and pages part at its place. -/
structure Parted (k : Key) (es : List En) (ts : List T) (a b : List En) (l : List T) (c : T) (r : List T) : Prop where
  es_ : es = a ++ b
  ts_ : ts = l ++ c :: r
  al : a.length = pos k es
  ll : l.length = pos k es
  br : b.length = r.length
theorem parted {k : Key} {es a b : List En} {ts : List T} (he : es = a ++ b) (ha : a.length = pos k es) (hl : ts.length = es.length + 1) : ∃ l c r, Parted k es ts a b l c r ∧ ts[pos k es]? = some c := by
  obtain ⟨l, c, r, h1, h2, h3⟩ := part_at ts (pos k es) (by have := pos_le k es; omega)
  refine ⟨l, c, r, ⟨he, h1, ha, h2, ?_⟩, h3⟩
  have := congrArg List.length h1
  have := congrArg List.length he
  simp at *
  omega

theorem put_fat (k : Key) (v : Value) : ∀ (d m : Nat) (t : T), Rise t.flat → Fat m d t → m ≤ 2 → (Fat m d (putT k v d t) ∧ (putT k v d t).flat = ins k v t.flat) := by
  intro d
  induction d with
  | zero =>
    intro m t hr hf hm
    cases t with
    | node es ts =>
      obtain ⟨h1, rfl⟩ := hf
      rw [flat_node, flatL_nil] at hr
      obtain ⟨a, b, he, ha, hlt, hc⟩ := pos_split k es hr
      rw [putT]
      rcases hc with ⟨hh, u, r, rfl, hgt⟩ | ⟨hh, hgt⟩
      · rw [if_pos hh]
        refine ⟨⟨by simpa using h1, rfl⟩, ?_⟩
        rw [flat_node, flat_node, flatL_nil, flatL_nil, he, ← he, ← ha, he, set_len rfl, ins_left hlt, ins_hit]
      · rw [if_neg (by rw [hh]; simp)]
        refine ⟨⟨?_, rfl⟩, ?_⟩
        · rw [← ha, he, insAt_len rfl]; rw [he] at h1; simp at h1 ⊢; omega
        · rw [flat_node, flat_node, flatL_nil, flatL_nil, ← ha, he, insAt_len rfl, ins_left hlt, ins_above hgt]
  | succ d ih =>
    intro m t hr hf hm
    cases t with
    | node es ts =>
      obtain ⟨h1, h2, h3⟩ := hf
      have hres : Rise es := by
        have h5 := hr
        rw [flat_node] at h5
        have : ∀ (es : List En) (ts : List T), es.length ≤ ts.length → List.Sublist es (T.flatL es ts) := by
          intro es
          induction es with
          | nil => intro ts _; exact List.nil_sublist _
          | cons e es ih =>
            intro ts h
            cases ts with
            | nil => simp at h
            | cons t ts =>
              rw [flatL_cons]
              exact List.Sublist.trans (List.Sublist.cons_cons e (ih ts (by simpa using h))) (List.sublist_append_right _ _)
        exact List.Pairwise.sublist (this es ts (by omega)) h5
      obtain ⟨a, b, he, ha, hlt, hc⟩ := pos_split k es hres
      obtain ⟨l, c, r, hp, hg⟩ := parted he ha h2
      obtain ⟨_, rfl, hal, hll, hbr⟩ := hp
      have hlen : a.length = l.length := by omega
      have hfl : (T.node es (l ++ c :: r)).flat = wl a l ++ (c.flat ++ tl b r) := by rw [he]; exact flat_at a b l c r hlen
      rw [hfl] at hr
      rw [putT]
      rcases hc with ⟨hh, u, r', rfl, hgt⟩ | ⟨hh, hgt⟩
      · rw [if_pos hh]
        refine ⟨⟨by simpa using h1, by simpa using h2, h3⟩, ?_⟩
        have hw := wl_less hlen hr.left hlt
        cases r with
        | nil => simp at hbr
        | cons t r =>
          rw [hfl, tl_cons] at *
          have hc2 : ∀ x ∈ c.flat, Op.bytesLess x.key k = true := fun x hx => hr.right.cross x hx ⟨k, u⟩ (by simp)
          have hset : es.set (pos k es) ⟨k, v⟩ = a ++ ⟨k, v⟩ :: r' := by rw [← ha, he, set_len rfl]
          rw [hset, flat_at a _ l c (t :: r) hlen, tl_cons, ins_left hw, ins_left hc2, ins_hit]
      · rw [if_neg (by rw [hh]; simp), hg]
        have hcm : c ∈ l ++ c :: r := by simp
        obtain ⟨hf', hfl'⟩ := ih 2 c hr.right.left (h3 c hcm) (Nat.le_refl _)
        have hw := wl_less hlen hr.left hlt
        have ht := tl_more hbr hr.right.right hgt
        have hmain : ins k v (T.node es (l ++ c :: r)).flat = wl a l ++ ((putT k v d c).flat ++ tl b r) := by
          rw [hfl, ins_left hw, ins_right ht, hfl']
        rw [hmain]
        simp only
        generalize putT k v d c = c' at *
        split
        · rename_i hbig
          have hs := hf'.shape
          have hsf := split_flat c' hbig (by rcases hs with ⟨_, h⟩ | ⟨_, h⟩ <;> simp [h])
          obtain ⟨hl2, hr2⟩ := hf'.left hbig
          unfold splitT
          rw [← hll, List.take_left' rfl, drop_len1 rfl, ← hlen, he, insAt_len rfl]
          refine ⟨⟨?_, ?_, ?_⟩, ?_⟩
          · rw [he] at h1; simp at h1 ⊢; omega
          · simp; omega
          · intro x hx
            rcases List.mem_append.1 hx with hx | hx
            · exact h3 x (by simp [hx])
            · rcases List.mem_cons.1 hx with rfl | hx
              · exact hl2
              · rcases List.mem_cons.1 hx with rfl | hx
                · exact hr2
                · exact h3 x (by simp [hx])
          · rw [flat_at a _ l _ _ hlen, tl_cons, ← hsf]
            simp
        · rw [← hll, set_len rfl]
          refine ⟨⟨h1, by simpa using h2, ?_⟩, ?_⟩
          · intro x hx
            rcases List.mem_append.1 hx with hx | hx
            · exact h3 x (by simp [hx])
            · rcases List.mem_cons.1 hx with rfl | hx
              · exact hf'
              · exact h3 x (by simp [hx])
          · rw [he, flat_at a b l c' r hlen]
end Go.Afx
/- Plain: what a tree of pages tells, page by page. -/
namespace Go.Afx
open Go

theorem find_none_of {l : List En} {p : En → Bool} (h : ∀ x ∈ l, p x = false) : l.find? p = none := by
  rw [List.find?_eq_none]
  intro x hx
  rw [h x hx]; simp
theorem look_append (k : Key) (a b : List En) : look k (a ++ b) = (look k a).or (look k b) := by
  unfold look
  rw [List.find?_append]
  cases a.find? fun e => e.key == k <;> simp
theorem look_less {k : Key} {a : List En} (h : ∀ x ∈ a, Op.bytesLess x.key k = true) : look k a = none := by
  unfold look
  rw [find_none_of fun x hx => by rw [beq_eq_false_iff_ne]; exact klt_ne (h x hx)]; rfl
theorem look_more {k : Key} {a : List En} (h : ∀ x ∈ a, Op.bytesLess k x.key = true) : look k a = none := by
  unfold look
  rw [find_none_of fun x hx => by rw [beq_eq_false_iff_ne]; exact fun e => klt_ne (h x hx) e.symm]; rfl
theorem look_hit (k : Key) (v : Value) (r : List En) : look k (⟨k, v⟩ :: r) = some v := by unfold look; simp

/-- The first entry above a key; or from it on. -/
def abv (k : Key) (wi : Bool) (l : List En) : Option En := l.find? fun e => Op.bytesLess k e.key || (wi && e.key == k)
/-- The last entry below a key; or up to it. -/
def blw (k : Key) (wi : Bool) (l : List En) : Option En := (l.filter fun e => Op.bytesLess e.key k || (wi && e.key == k)).getLast?
theorem abv_append (k : Key) (wi : Bool) (a b : List En) : abv k wi (a ++ b) = (abv k wi a).or (abv k wi b) := by unfold abv; rw [List.find?_append]
theorem abv_less {k : Key} {wi : Bool} {a : List En} (h : ∀ x ∈ a, Op.bytesLess x.key k = true) : abv k wi a = none :=
  find_none_of fun x hx => by
    have h1 := h x hx
    rw [klt_asymm _ _ h1, beq_eq_false_iff_ne.2 (klt_ne h1)]; simp
theorem abv_more {k : Key} {wi : Bool} {a : List En} (h : ∀ x ∈ a, Op.bytesLess k x.key = true) : abv k wi a = a.head? := by
  unfold abv
  cases a with
  | nil => rfl
  | cons x a => rw [List.find?_cons_of_pos (by rw [h x (by simp)]; rfl)]; rfl
theorem abv_hit (k : Key) (v : Value) (r : List En) : abv k true (⟨k, v⟩ :: r) = some ⟨k, v⟩ := by
  unfold abv
  rw [List.find?_cons_of_pos (by simp)]
theorem abv_past (k : Key) (v : Value) (r : List En) : abv k false (⟨k, v⟩ :: r) = abv k false r := by
  unfold abv
  rw [List.find?_cons_of_neg (by simp [klt_irrefl])]
theorem getLast_append {α : Type} (a b : List α) : (a ++ b).getLast? = b.getLast?.or a.getLast? := by
  rw [List.getLast?_append]
theorem blw_append (k : Key) (wi : Bool) (a b : List En) : blw k wi (a ++ b) = (blw k wi b).or (blw k wi a) := by unfold blw; rw [List.filter_append, getLast_append]
theorem blw_less {k : Key} {wi : Bool} {a : List En} (h : ∀ x ∈ a, Op.bytesLess x.key k = true) : blw k wi a = a.getLast? := by
  unfold blw
  rw [List.filter_eq_self.2 fun x hx => by rw [h x hx]; rfl]
theorem blw_more {k : Key} {wi : Bool} {a : List En} (h : ∀ x ∈ a, Op.bytesLess k x.key = true) : blw k wi a = none := by
  unfold blw
  have : (a.filter fun e => Op.bytesLess e.key k || (wi && e.key == k)) = [] := by
    rw [List.filter_eq_nil_iff]
    intro x hx
    have h1 := h x hx
    rw [klt_asymm _ _ h1, beq_eq_false_iff_ne.2 (fun e => klt_ne h1 e.symm)]; simp
  rw [this]; rfl
theorem blw_hit {k : Key} (v : Value) {r : List En} (h : ∀ x ∈ r, Op.bytesLess k x.key = true) : blw k true (⟨k, v⟩ :: r) = some ⟨k, v⟩ := by
  have h2 := blw_append k true [⟨k, v⟩] r
  rw [blw_more h] at h2
  have h3 : blw k true [⟨k, v⟩] = some ⟨k, v⟩ := by unfold blw; simp
  rw [h3] at h2
  simpa using h2
theorem blw_past {k : Key} (v : Value) {r : List En} (h : ∀ x ∈ r, Op.bytesLess k x.key = true) : blw k false (⟨k, v⟩ :: r) = none := by
  have h2 := blw_append k false [⟨k, v⟩] r
  rw [blw_more h] at h2
  have h3 : blw k false [⟨k, v⟩] = none := by unfold blw; simp [klt_irrefl]
  rw [h3] at h2
  simpa using h2

theorem es_sublist : ∀ (es : List En) (ts : List T), List.Sublist es (T.flatL es ts)
  | es, [] => by rw [flatL_nil]; exact List.Sublist.refl _
  | [], _ :: _ => List.nil_sublist _
  | e :: es, t :: ts => by
    rw [flatL_cons]
    exact List.Sublist.trans (List.Sublist.cons_cons e (es_sublist es ts)) (List.sublist_append_right _ _)
theorem Rise.es {es : List En} {ts : List T} (h : Rise (T.node es ts).flat) : Rise es := by
  rw [flat_node] at h
  exact List.Pairwise.sublist (es_sublist es ts) h
/-- What a page's parts say of a key that it parts at. -/
structure Split (k : Key) (es : List En) (ts : List T) (a b : List En) (l : List T) (c : T) (r : List T) : Prop where
  es_ : es = a ++ b
  ts_ : ts = l ++ c :: r
  al : a.length = pos k es
  ll : l.length = pos k es
  br : b.length = r.length
  fl : (T.node es ts).flat = wl a l ++ (c.flat ++ tl b r)
  wlt : ∀ x ∈ wl a l, Op.bytesLess x.key k = true
  alt : ∀ x ∈ a, Op.bytesLess x.key k = true
  hit : (has k es = true ∧ (∀ x ∈ c.flat, Op.bytesLess x.key k = true) ∧ ∃ v b' c' r', b = ⟨k, v⟩ :: b' ∧ r = c' :: r' ∧ tl b r = ⟨k, v⟩ :: (c'.flat ++ tl b' r') ∧ ∀ x ∈ c'.flat ++ tl b' r', Op.bytesLess k x.key = true) ∨
    (has k es = false ∧ ∀ x ∈ tl b r, Op.bytesLess k x.key = true)
theorem split_page {k : Key} {es : List En} {ts : List T} (hr : Rise (T.node es ts).flat) (hl : ts.length = es.length + 1) : ∃ a b l c r, Split k es ts a b l c r ∧ ts[pos k es]? = some c := by
  obtain ⟨a, b, he, ha, hlt, hc⟩ := pos_split k es hr.es
  obtain ⟨l, c, r, hp, hg⟩ := parted he ha hl
  obtain ⟨_, hts, hal, hll, hbr⟩ := hp
  have hlen : a.length = l.length := by omega
  have hfl : (T.node es ts).flat = wl a l ++ (c.flat ++ tl b r) := by rw [he, hts]; exact flat_at a b l c r hlen
  rw [hfl] at hr
  refine ⟨a, b, l, c, r, ⟨he, hts, hal, hll, hbr, hfl, wl_less hlen hr.left hlt, hlt, ?_⟩, hg⟩
  rcases hc with ⟨hh, v, b', rfl, hgt⟩ | ⟨hh, hgt⟩
  · refine .inl ⟨hh, ?_, v, b', ?_⟩
    · intro x hx
      have := hr.right
      exact this.cross x hx ⟨k, v⟩ (by rw [tl]; simp)
    · cases r with
      | nil => simp at hbr
      | cons c' r' =>
        refine ⟨c', r', rfl, rfl, tl_cons _ _ _ _, fun x hx => ?_⟩
        have h2 := hr.right.right
        rw [tl_cons] at h2
        exact (List.pairwise_cons.1 h2).1 x hx
  · exact .inr ⟨hh, tl_more hbr hr.right.right hgt⟩
/-- A page without pages below. -/
structure Leaf (k : Key) (es a b : List En) : Prop where
  es_ : es = a ++ b
  al : a.length = pos k es
  alt : ∀ x ∈ a, Op.bytesLess x.key k = true
  hit : (has k es = true ∧ ∃ v b', b = ⟨k, v⟩ :: b' ∧ ∀ x ∈ b', Op.bytesLess k x.key = true) ∨ (has k es = false ∧ ∀ x ∈ b, Op.bytesLess k x.key = true)
theorem leaf_page {k : Key} {es : List En} (hr : Rise (T.node es []).flat) : ∃ a b, Leaf k es a b := by
  obtain ⟨a, b, he, ha, hlt, hc⟩ := pos_split k es hr.es
  refine ⟨a, b, he, ha, hlt, ?_⟩
  rcases hc with ⟨hh, v, r, hb, hgt⟩ | ⟨hh, hgt⟩
  · exact .inl ⟨hh, v, r, hb, hgt⟩
  · exact .inr ⟨hh, hgt⟩
theorem flat_leaf (es : List En) : (T.node es []).flat = es := by rw [flat_node, flatL_nil]

theorem Split.look {k : Key} {es : List En} {ts : List T} {a b : List En} {l : List T} {c : T} {r : List T} (h : Split k es ts a b l c r) : (has k es = true → ∃ e, es[pos k es]? = some e ∧ e.key = k ∧ look k (T.node es ts).flat = some e.val) ∧ (has k es = false → look k (T.node es ts).flat = look k c.flat) := by
  rw [h.fl, look_append, look_less h.wlt, look_append]
  refine ⟨fun hh => ?_, fun hh => ?_⟩
  · rcases h.hit with ⟨_, hcl, v, b', c', r', hb, hr, htl, _⟩ | ⟨h2, _⟩
    · refine ⟨⟨k, v⟩, by rw [← h.al, h.es_, hb]; simp, rfl, ?_⟩
      rw [look_less hcl, htl, look_hit]; rfl
    · rw [hh] at h2; cases h2
  · rcases h.hit with ⟨h2, _⟩ | ⟨_, hm⟩
    · rw [hh] at h2; cases h2
    · rw [look_more hm]; simp
theorem Leaf.look {k : Key} {es a b : List En} (h : Leaf k es a b) : (has k es = true → ∃ e, es[pos k es]? = some e ∧ e.key = k ∧ look k es = some e.val) ∧ (has k es = false → look k es = none) := by
  have h1 : Afx.look k es = (Afx.look k a).or (Afx.look k b) := by rw [h.es_, look_append]
  rw [h1, look_less h.alt]
  refine ⟨fun hh => ?_, fun hh => ?_⟩
  · rcases h.hit with ⟨_, v, b', hb, _⟩ | ⟨h2, _⟩
    · exact ⟨⟨k, v⟩, by rw [← h.al, h.es_, hb]; simp, rfl, by rw [hb, look_hit]; rfl⟩
    · rw [hh] at h2; cases h2
  · rcases h.hit with ⟨h2, _⟩ | ⟨_, hm⟩
    · rw [hh] at h2; cases h2
    · rw [look_more hm]; rfl

/-- One step down towards the first entry above a key: the best one yet, then the page below. -/
theorem Split.abv {k : Key} {wi : Bool} {es : List En} {ts : List T} {a b : List En} {l : List T} {c : T} {r : List T} (h : Split k es ts a b l c r) :
    (has k es = true → wi = true → ∃ e, es[pos k es]? = some e ∧ abv k wi (T.node es ts).flat = some e) ∧
    (has k es = true → wi = false → ∃ c', ts[pos k es + 1]? = some c' ∧ abv k wi (T.node es ts).flat = (abv k wi c'.flat).or es[pos k es + 1]?) ∧
    (has k es = false → abv k wi (T.node es ts).flat = (abv k wi c.flat).or es[pos k es]?) := by
  rw [h.fl, abv_append, abv_less h.wlt, abv_append]
  have hes : es = a ++ b := h.es_
  refine ⟨fun hh hw => ?_, fun hh hw => ?_, fun hh => ?_⟩
  · rcases h.hit with ⟨_, hcl, v, b', c', r', hb, hr, htl, hm⟩ | ⟨h2, _⟩
    · subst hw
      refine ⟨⟨k, v⟩, by rw [← h.al, hes, hb]; simp, ?_⟩
      rw [abv_less hcl, htl, abv_hit]; rfl
    · rw [hh] at h2; cases h2
  · rcases h.hit with ⟨_, hcl, v, b', c', r', hb, hr, htl, hm⟩ | ⟨h2, _⟩
    · subst hw
      refine ⟨c', by rw [← h.ll, h.ts_, hr]; simp, ?_⟩
      rw [abv_less hcl, htl, abv_past, abv_append]
      have h3 : Afx.abv k false (tl b' r') = es[pos k es + 1]? := by
        rw [abv_more (fun x hx => hm x (by simp [hx])), ← h.al, hes, hb]
        cases b' with
        | nil =>
          have : r' = [] := by
            have h5 := h.br
            rw [hb, hr] at h5
            simp only [List.length_cons, List.length_nil] at h5
            exact List.eq_nil_of_length_eq_zero (by omega)
          rw [this, tl_nil]; simp
        | cons e b' => rw [tl]; simp
      rw [h3]; simp
    · rw [hh] at h2; cases h2
  · rcases h.hit with ⟨h2, _⟩ | ⟨_, hm⟩
    · rw [hh] at h2; cases h2
    · have h3 : Afx.abv k wi (tl b r) = es[pos k es]? := by
        rw [abv_more hm, ← h.al, hes]
        cases b with
        | nil =>
          have : r = [] := List.eq_nil_of_length_eq_zero (by have h5 := h.br; simpa using h5.symm)
          rw [this, tl_nil]; simp
        | cons e b => rw [tl]; simp
      rw [h3]; simp
theorem Leaf.abv {k : Key} {wi : Bool} {es a b : List En} (h : Leaf k es a b) :
    (has k es = true → wi = true → ∃ e, es[pos k es]? = some e ∧ abv k wi es = some e) ∧ (has k es = true → wi = false → abv k wi es = es[pos k es + 1]?) ∧ (has k es = false → abv k wi es = es[pos k es]?) := by
  have h1 : Afx.abv k wi es = (Afx.abv k wi a).or (Afx.abv k wi b) := by rw [h.es_, abv_append]
  rw [h1, abv_less h.alt]
  have hes : es = a ++ b := h.es_
  refine ⟨fun hh hw => ?_, fun hh hw => ?_, fun hh => ?_⟩
  · rcases h.hit with ⟨_, v, b', hb, hm⟩ | ⟨h2, _⟩
    · subst hw
      exact ⟨⟨k, v⟩, by rw [← h.al, hes, hb]; simp, by rw [hb, abv_hit]; rfl⟩
    · rw [hh] at h2; cases h2
  · rcases h.hit with ⟨_, v, b', hb, hm⟩ | ⟨h2, _⟩
    · subst hw
      rw [hb, abv_past, abv_more hm, ← h.al, hes, hb]
      cases b' <;> simp
    · rw [hh] at h2; cases h2
  · rcases h.hit with ⟨h2, _⟩ | ⟨_, hm⟩
    · rw [hh] at h2; cases h2
    · rw [abv_more hm, ← h.al, hes]
      cases b <;> simp
theorem wl_last : ∀ {a : List En} {l : List T}, a.length = l.length → (wl a l).getLast? = a.getLast?
  | [], [], _ => rfl
  | [e], [t], _ => by
    have h1 : wl [e] [t] = t.flat ++ [e] := by simp [wl]
    rw [h1]; simp
  | e :: e2 :: a, t :: t2 :: l, h => by
    have ih := wl_last (a := e2 :: a) (l := t2 :: l) (by simpa using h)
    rw [wl, getLast_append, List.getLast?_cons, ih]
    have h2 : (e2 :: a).getLast? = some ((e2 :: a).getLast (by simp)) := List.getLast?_eq_some_getLast (by simp)
    rw [List.getLast?_cons_cons, h2]
    rfl
/-- One step down towards the last entry below a key. -/
theorem Split.blw {k : Key} {wi : Bool} {es : List En} {ts : List T} {a b : List En} {l : List T} {c : T} {r : List T} (h : Split k es ts a b l c r) :
    (has k es = true → wi = true → ∃ e, es[pos k es]? = some e ∧ blw k wi (T.node es ts).flat = some e) ∧
    ((has k es = true → wi = false) → blw k wi (T.node es ts).flat = (blw k wi c.flat).or a.getLast?) := by
  rw [h.fl, blw_append, blw_append, blw_less h.wlt, wl_last (by have := h.al; have := h.ll; omega)]
  have hes : es = a ++ b := h.es_
  refine ⟨fun hh hw => ?_, fun hh => ?_⟩
  · rcases h.hit with ⟨_, hcl, v, b', c', r', hb, hr, htl, hm⟩ | ⟨h2, _⟩
    · subst hw
      refine ⟨⟨k, v⟩, by rw [← h.al, hes, hb]; simp, ?_⟩
      rw [htl, blw_hit v hm]; rfl
    · rw [hh] at h2; cases h2
  · rcases h.hit with ⟨h2, hcl, v, b', c', r', hb, hr, htl, hm⟩ | ⟨_, hm⟩
    · obtain rfl := hh h2
      rw [htl, blw_past v hm]; simp
    · rw [blw_more hm]; simp
theorem Leaf.blw {k : Key} {wi : Bool} {es a b : List En} (h : Leaf k es a b) :
    (has k es = true → wi = true → ∃ e, es[pos k es]? = some e ∧ blw k wi es = some e) ∧ ((has k es = true → wi = false) → blw k wi es = a.getLast?) := by
  have h1 : Afx.blw k wi es = (Afx.blw k wi b).or (Afx.blw k wi a) := by rw [h.es_, blw_append]
  rw [h1, blw_less h.alt]
  have hes : es = a ++ b := h.es_
  refine ⟨fun hh hw => ?_, fun hh => ?_⟩
  · rcases h.hit with ⟨_, v, b', hb, hm⟩ | ⟨h2, _⟩
    · subst hw
      exact ⟨⟨k, v⟩, by rw [← h.al, hes, hb]; simp, by rw [hb, blw_hit v hm]; rfl⟩
    · rw [hh] at h2; cases h2
  · rcases h.hit with ⟨h2, v, b', hb, hm⟩ | ⟨_, hm⟩
    · obtain rfl := hh h2
      rw [hb, blw_past v hm]; rfl
    · rw [blw_more hm]; rfl
/-- The last entry. -/
theorem last_page (es : List En) (ts : List T) (c : T) (h : es.length = ts.length) : (T.node es (ts ++ [c])).flat.getLast? = c.flat.getLast?.or es.getLast? := by
  have h1 := flat_at es [] ts c [] h
  rw [List.append_nil] at h1
  rw [h1, tl_nil, List.append_nil, getLast_append, wl_last h]
end Go.Afx
/- Plain: pages that take from one another keep the list. -/
namespace Go.Afx
open Go

theorem flatL_join : ∀ (ae : List En) (at_ : List T) (x : En) (ce : List En) (ct : List T), at_.length = ae.length + 1 → T.flatL (ae ++ x :: ce) (at_ ++ ct) = T.flatL ae at_ ++ x :: T.flatL ce ct
  | [], [t], x, ce, ct, _ => by
    rw [List.nil_append, List.cons_append, List.nil_append, flatL_cons, flatL_end, flatL_nil, List.append_nil]
  | [], [], _, _, _, h => by simp at h
  | [], _ :: _ :: _, _, _, _, h => by simp at h
  | e :: ae, [], _, _, _, h => by simp at h
  | e :: ae, t :: at_, x, ce, ct, h => by
    rw [List.cons_append, List.cons_append, flatL_cons, flatL_join ae at_ x ce ct (by simpa using h), flatL_cons]
    simp
theorem flatL_snoc (ae : List En) (at_ : List T) (y : En) (t : T) (h : at_.length = ae.length + 1) : T.flatL (ae ++ [y]) (at_ ++ [t]) = T.flatL ae at_ ++ y :: t.flat := by
  rw [flatL_join ae at_ y [] [t] h, flatL_end, flatL_nil, List.append_nil]
/-- A page's list, parted at two pages below and the entry between. -/
theorem flat_two (ea eb : List En) (x : En) (l : List T) (a c : T) (r : List T) (h : ea.length = l.length) : (T.node (ea ++ x :: eb) (l ++ a :: c :: r)).flat = wl ea l ++ (a.flat ++ x :: (c.flat ++ tl eb r)) := by
  rw [flat_at ea (x :: eb) l a (c :: r) h, tl_cons]
/-- Two pages and the entry between them, otherwise: the same list. -/
theorem flat_same {ea eb : List En} {x y : En} {l r : List T} {a c a' c' : T} (h : ea.length = l.length) (hs : a'.flat ++ y :: c'.flat = a.flat ++ x :: c.flat) :
    (T.node (ea ++ y :: eb) (l ++ a' :: c' :: r)).flat = (T.node (ea ++ x :: eb) (l ++ a :: c :: r)).flat := by
  rw [flat_two ea eb y l a' c' r h, flat_two ea eb x l a c r h]
  have h1 : a'.flat ++ y :: (c'.flat ++ tl eb r) = (a'.flat ++ y :: c'.flat) ++ tl eb r := by simp
  have h2 : a.flat ++ x :: (c.flat ++ tl eb r) = (a.flat ++ x :: c.flat) ++ tl eb r := by simp
  rw [h1, h2, hs]
theorem flat_one_of {ea eb : List En} {x : En} {l r : List T} {a c t : T} (h : ea.length = l.length) (hs : t.flat = a.flat ++ x :: c.flat) :
    (T.node (ea ++ eb) (l ++ t :: r)).flat = (T.node (ea ++ x :: eb) (l ++ a :: c :: r)).flat := by
  rw [flat_at ea eb l t r h, flat_two ea eb x l a c r h, hs]
  simp

/-- The last entry of the left page goes up, that between them down to the right one. -/
theorem right_flat {d m : Nat} {ae ce : List En} {y x : En} {at_ ct : List T} (ha : Fat m d (T.node (ae ++ [y]) at_)) (hc : Fat 0 d (T.node ce ct)) :
    (at_ = [] ∧ ct = [] ∧ d = 0 ∧ (T.node ae []).flat ++ y :: (T.node (x :: ce) []).flat = (T.node (ae ++ [y]) at_).flat ++ x :: (T.node ce ct).flat) ∨
    ∃ at' t, at_ = at' ++ [t] ∧ 0 < d ∧ at'.length = ae.length + 1 ∧ ct.length = ce.length + 1 ∧ (T.node ae at').flat ++ y :: (T.node (x :: ce) (t :: ct)).flat = (T.node (ae ++ [y]) at_).flat ++ x :: (T.node ce ct).flat := by
  cases d with
  | zero =>
    obtain ⟨_, rfl⟩ := ha
    obtain ⟨_, rfl⟩ := hc
    exact .inl ⟨rfl, rfl, rfl, by simp [flat_leaf]⟩
  | succ d =>
    obtain ⟨_, h2, _⟩ := ha
    obtain ⟨_, h3, _⟩ := hc
    have hne : at_ ≠ [] := by intro e; subst e; simp at h2
    refine .inr ⟨at_.dropLast, at_.getLast hne, (List.dropLast_concat_getLast hne).symm, by omega, by simp at h2 ⊢; omega, h3, ?_⟩
    have e1 : at_ = at_.dropLast ++ [at_.getLast hne] := (List.dropLast_concat_getLast hne).symm
    have h4 : (T.node (ae ++ [y]) at_).flat = T.flatL ae at_.dropLast ++ y :: (at_.getLast hne).flat := by
      rw [flat_node]
      conv => lhs; rw [e1]
      exact flatL_snoc ae _ y _ (by simp at h2 ⊢; omega)
    rw [h4, flat_node, flat_node, flat_node, flatL_cons]
    simp
/-- The first entry of the right page goes up, that between them down to the left one. -/
theorem left_flat {d m : Nat} {ae ce : List En} {y x : En} {at_ ct : List T} (ha : Fat 0 d (T.node ae at_)) (hc : Fat m d (T.node (y :: ce) ct)) :
    (at_ = [] ∧ ct = [] ∧ d = 0 ∧ (T.node (ae ++ [x]) []).flat ++ y :: (T.node ce []).flat = (T.node ae at_).flat ++ x :: (T.node (y :: ce) ct).flat) ∨
    ∃ t ct', ct = t :: ct' ∧ 0 < d ∧ at_.length = ae.length + 1 ∧ ct'.length = ce.length + 1 ∧ (T.node (ae ++ [x]) (at_ ++ [t])).flat ++ y :: (T.node ce ct').flat = (T.node ae at_).flat ++ x :: (T.node (y :: ce) ct).flat := by
  cases d with
  | zero =>
    obtain ⟨_, rfl⟩ := ha
    obtain ⟨_, rfl⟩ := hc
    exact .inl ⟨rfl, rfl, rfl, by simp [flat_leaf]⟩
  | succ d =>
    obtain ⟨_, h2, _⟩ := ha
    obtain ⟨_, h3, _⟩ := hc
    cases ct with
    | nil => simp at h3
    | cons t ct' =>
      refine .inr ⟨t, ct', rfl, by omega, h2, by simpa using h3, ?_⟩
      rw [flat_node, flatL_snoc ae at_ x t h2, flat_node, flat_node, flat_node, flatL_cons]
      simp
/-- Two pages and the entry between become one. -/
theorem join_flat {d : Nat} {ae ce : List En} {x : En} {at_ ct : List T} (ha : Fat 0 d (T.node ae at_)) (hc : Fat 0 d (T.node ce ct)) :
    (T.node (ae ++ x :: ce) (at_ ++ ct)).flat = (T.node ae at_).flat ++ x :: (T.node ce ct).flat := by
  cases d with
  | zero =>
    obtain ⟨_, rfl⟩ := ha
    obtain ⟨_, rfl⟩ := hc
    simp [flat_leaf]
  | succ d =>
    obtain ⟨_, h2, _⟩ := ha
    rw [flat_node, flat_node, flat_node, flatL_join ae at_ x ce ct h2]
theorem join_fat {d : Nat} {ae ce : List En} {x : En} {at_ ct : List T} {m n : Nat} (ha : Fat m d (T.node ae at_)) (hc : Fat n d (T.node ce ct)) : Fat (m + n + 1) d (T.node (ae ++ x :: ce) (at_ ++ ct)) := by
  cases d with
  | zero =>
    obtain ⟨h1, rfl⟩ := ha
    obtain ⟨h2, rfl⟩ := hc
    exact ⟨by simp; omega, rfl⟩
  | succ d =>
    obtain ⟨h1, h2, h3⟩ := ha
    obtain ⟨g1, g2, g3⟩ := hc
    exact ⟨by simp; omega, by simp; omega, fun t ht => by
      rcases List.mem_append.1 ht with ht | ht
      · exact h3 t ht
      · exact g3 t ht⟩
end Go.Afx
/- Plain: a key taken out of pages; keys told one by one. -/
namespace Go.Afx
open Go

theorem Split.del {k : Key} {es : List En} {ts : List T} {a b : List En} {l : List T} {c : T} {r : List T} (h : Split k es ts a b l c r) :
    (has k es = true → ∃ v rest, (T.node es ts).flat = wl a l ++ (c.flat ++ ⟨k, v⟩ :: rest) ∧ del k (T.node es ts).flat = wl a l ++ (c.flat ++ rest) ∧ tl b r = ⟨k, v⟩ :: rest) ∧
    (has k es = false → del k (T.node es ts).flat = wl a l ++ (del k c.flat ++ tl b r)) := by
  rw [h.fl]
  refine ⟨fun hh => ?_, fun hh => ?_⟩
  · rcases h.hit with ⟨_, hcl, v, b', c', r', hb, hr, htl, hm⟩ | ⟨h2, _⟩
    · refine ⟨v, c'.flat ++ tl b' r', by rw [htl], ?_, htl⟩
      rw [del_left h.wlt, htl, del_left hcl, del_hit]
    · rw [hh] at h2; cases h2
  · rcases h.hit with ⟨h2, _⟩ | ⟨_, hm⟩
    · rw [hh] at h2; cases h2
    · rw [del_left h.wlt, del_right hm]
theorem Leaf.del {k : Key} {es a b : List En} (h : Leaf k es a b) : (has k es = true → ∃ v b', b = ⟨k, v⟩ :: b' ∧ del k es = a ++ b') ∧ (has k es = false → del k es = es) := by
  have hd : Afx.del k es = a ++ Afx.del k b := by rw [h.es_, del_left h.alt]
  refine ⟨fun hh => ?_, fun hh => ?_⟩
  · rcases h.hit with ⟨_, v, b', hb, hm⟩ | ⟨h2, _⟩
    · exact ⟨v, b', hb, by rw [hd, hb, del_hit]⟩
    · rw [hh] at h2; cases h2
  · rcases h.hit with ⟨h2, _⟩ | ⟨_, hm⟩
    · rw [hh] at h2; cases h2
    · rw [hd, del_above hm, ← h.es_]

/-- The keys that Keys tells: from a first one on, below another one, at most so many. -/
def keysFrom (fr to : Key) (l : List En) : List Key := ((l.filter fun e => !Op.bytesLess e.key fr && (to.isEmpty || Op.bytesLess e.key to)).map En.key)
theorem keysFrom_less {fr to : Key} {a b : List En} (h : ∀ x ∈ a, Op.bytesLess x.key fr = true) : keysFrom fr to (a ++ b) = keysFrom fr to b := by
  unfold keysFrom
  rw [List.filter_append, List.filter_eq_nil_iff.2 fun x hx => by rw [h x hx]; simp]
  rfl
/-- Behind the entry at hand: the keys of what is left, as long as they are below. -/
def keysUp (to : Key) : List En → List Key
  | [] => []
  | e :: r => if to.isEmpty || Op.bytesLess e.key to then e.key :: keysUp to r else []
theorem keysFrom_up {fr to : Key} : ∀ {l : List En}, Rise l → (∀ x ∈ l, Op.bytesLess x.key fr = false) → keysFrom fr to l = keysUp to l
  | [], _, _ => rfl
  | e :: r, hr, h => by
    obtain ⟨h1, h2⟩ := List.pairwise_cons.1 hr
    have ih := keysFrom_up (fr := fr) (to := to) h2 (fun x hx => h x (by simp [hx]))
    have he := h e (by simp)
    rw [keysUp]
    by_cases hb : (to.isEmpty || Op.bytesLess e.key to) = true
    · rw [if_pos hb, ← ih]
      unfold keysFrom
      rw [List.filter_cons_of_pos (by rw [he, hb]; rfl)]; rfl
    · rw [if_neg hb]
      unfold keysFrom
      have hall : ∀ x ∈ e :: r, (!Op.bytesLess x.key fr && (to.isEmpty || Op.bytesLess x.key to)) = false := by
        intro x hx
        rw [Bool.not_eq_true, Bool.or_eq_false_iff] at hb
        have : Op.bytesLess x.key to = false := by
          rcases List.mem_cons.1 hx with rfl | hx
          · exact hb.2
          · cases hq : Op.bytesLess x.key to with
            | false => rfl
            | true => have := klt_trans _ _ _ (h1 x hx) hq; rw [hb.2] at this; cases this
        rw [hb.1, this]; simp
      rw [List.filter_eq_nil_iff.2 fun x hx => by rw [hall x hx]; simp]; rfl
/-- A rising list parts at a key: below it, and from it on. -/
theorem part_below (k : Key) : ∀ {l : List En}, Rise l → ∃ a b, l = a ++ b ∧ (∀ x ∈ a, Op.bytesLess x.key k = true) ∧ (∀ x ∈ b, Op.bytesLess x.key k = false) ∧ abv k true l = b.head?
  | l, hr => by
    obtain ⟨a, b, he, _, hlt, hc⟩ := pos_split k l hr
    refine ⟨a, b, he, hlt, ?_, ?_⟩
    · intro x hx
      rcases hc with ⟨_, v, r, rfl, hgt⟩ | ⟨_, hgt⟩
      · rcases List.mem_cons.1 hx with rfl | hx
        · exact klt_irrefl _
        · exact klt_asymm _ _ (hgt x hx)
      · exact klt_asymm _ _ (hgt x hx)
    · rw [he, abv_append, abv_less hlt]
      rcases hc with ⟨_, v, r, rfl, hgt⟩ | ⟨_, hgt⟩
      · rw [abv_hit]; rfl
      · rw [abv_more hgt]; rfl
/-- The entry behind the one at hand. -/
theorem abv_next {a : List En} {e : En} {r : List En} (hr : Rise (a ++ e :: r)) : abv e.key false (a ++ e :: r) = r.head? := by
  have h1 : ∀ x ∈ a, Op.bytesLess x.key e.key = true := fun x hx => hr.cross x hx e (by simp)
  have h2 : ∀ x ∈ r, Op.bytesLess e.key x.key = true := fun x hx => (List.pairwise_cons.1 hr.right).1 x hx
  obtain ⟨k, v⟩ := e
  rw [abv_append, abv_less h1, abv_past, abv_more h2]; rfl
end Go.Afx
/- Plain: a key's place among rising entries, found by halves; what a look finds there. -/
namespace Go.Afx
open Go

theorem pos_lt {k : Key} {l : List En} (hr : Rise l) {h : Nat} (hh : h < l.length) : Op.bytesLess (l[h]).key k = decide (h < pos k l) := by
  obtain ⟨a, b, he, ha, hlt, hc⟩ := pos_split k l hr
  by_cases hp : h < pos k l
  · rw [decide_eq_true hp]
    have h1 : l[h] = a[h]'(by omega) := by subst he; exact List.getElem_append_left (by omega)
    rw [h1]
    exact hlt _ (List.getElem_mem _)
  · rw [decide_eq_false hp]
    have hb : h - a.length < b.length := by subst he; simp at hh; omega
    have h1 : l[h] = b[h - a.length] := by subst he; exact List.getElem_append_right (by omega)
    rw [h1]
    have hm : b[h - a.length] ∈ b := List.getElem_mem hb
    rcases hc with ⟨_, v, r, rfl, hgt⟩ | ⟨_, hgt⟩
    · rcases List.mem_cons.1 hm with h2 | h2
      · rw [h2]; exact klt_irrefl k
      · exact klt_asymm _ _ (hgt _ h2)
    · exact klt_asymm _ _ (hgt _ hm)
theorem has_at {k : Key} {l : List En} : has k l = true ↔ ∃ h : pos k l < l.length, (l[pos k l]).key = k := by
  unfold has
  cases hq : l[pos k l]? with
  | none => rw [List.getElem?_eq_none_iff] at hq; simp; omega
  | some e =>
    obtain ⟨h1, h2⟩ := List.getElem?_eq_some_iff.1 hq
    simp only [beq_iff_eq]
    constructor
    · intro h; exact ⟨h1, by rw [h2]; exact h⟩
    · rintro ⟨_, h⟩; rw [h2] at h; exact h
/-- What the comparison of an entry with a key answers. -/
def cmpK (a b : Key) : Int := if Op.bytesLess a b then -1 else if Op.bytesLess b a then 1 else 0
theorem cmpK_neg (a b : Key) : decide (cmpK a b < 0) = Op.bytesLess a b := by
  unfold cmpK
  cases h : Op.bytesLess a b
  · cases k : Op.bytesLess b a <;> rfl
  · rfl
theorem cmpK_zero (a b : Key) : (cmpK a b == 0) = (a == b) := by
  unfold cmpK
  cases h : Op.bytesLess a b
  · cases k : Op.bytesLess b a
    · have : a = b := by
        rcases Classical.em (a = b) with e | e
        · exact e
        · have := klt_total a b h e; rw [k] at this; cases this
      subst this; simp
    · have : a ≠ b := fun e => by subst e; rw [klt_irrefl] at k; cases k
      rw [beq_eq_false_iff_ne.2 this]; rfl
  · have : a ≠ b := klt_ne h
    rw [beq_eq_false_iff_ne.2 this]; rfl
theorem set_pos {k : Key} {v : Value} {l : List En} (hr : Rise l) (h : has k l = true) : l.set (pos k l) ⟨k, v⟩ = ins k v l := by
  obtain ⟨a, b, he, ha, hlt, hc⟩ := pos_split k l hr
  rcases hc with ⟨_, u, r, rfl, _⟩ | ⟨h2, _⟩
  · have h1 : ins k v l = a ++ ⟨k, v⟩ :: r := by rw [he, ins_left hlt, ins_hit]
    rw [h1, ← ha]
    conv => lhs; rw [he]
    exact set_len rfl
  · rw [h] at h2; cases h2
theorem ins_pos {k : Key} {v : Value} {l : List En} (hr : Rise l) (h : has k l = false) : insAt (pos k l) ⟨k, v⟩ l = ins k v l := by
  obtain ⟨a, b, he, ha, hlt, hc⟩ := pos_split k l hr
  rcases hc with ⟨h2, _⟩ | ⟨_, hgt⟩
  · rw [h] at h2; cases h2
  · have h1 : ins k v l = a ++ ⟨k, v⟩ :: b := by rw [he, ins_left hlt, ins_above hgt]
    rw [h1, ← ha]
    conv => lhs; rw [he]
    exact insAt_len rfl
end Go.Afx
/- Memory as resources that lie apart: what is held, and what a call leaves. -/
namespace Go.Afx
open Go Go.RowKit

/-- Something in memory: the blocks that it lies in, and what it says of them. -/
structure Res where
  foot : List Nat
  holds : World → Prop
  keep : ∀ w w', holds w → (∀ k ∈ foot, w'.heap[k]? = w.heap[k]?) → holds w'
  lt : ∀ w, holds w → ∀ k ∈ foot, k < w.heap.size

def Res.blk (b : Nat) (t : TypeId) (cs : List Value) : Res where
  foot := [b]
  holds w := Blk w b t cs
  keep w w' h hk := by unfold Blk at *; rw [hk b (by simp)]; exact h
  lt w h k hk := by rw [List.mem_singleton] at hk; subst hk; exact h.lt
def Res.own (e : TypeId) (sz : Nat) (v : Value) (n : Nat) (cs : List Value) : Res where
  foot := v.ownBlock.toList
  holds w := Own w e sz v n cs
  keep w w' h hk := h.keep fun k hq => hk k (by rw [hq]; simp)
  lt w h k hk := h.lt k (by simpa using hk)

def feet (rs : List Res) : List Nat := rs.flatMap Res.foot
theorem feet_cons (r : Res) (rs : List Res) : feet (r :: rs) = r.foot ++ feet rs := rfl
theorem feet_append (a b : List Res) : feet (a ++ b) = feet a ++ feet b := by simp [feet]
theorem mem_feet {rs : List Res} {k : Nat} : k ∈ feet rs ↔ ∃ r ∈ rs, k ∈ r.foot := by simp [feet]

/-- All hold, and none lies where another one lies. -/
structure Sep (w : World) (rs : List Res) : Prop where
  all : ∀ r ∈ rs, r.holds w
  nodup : (feet rs).Nodup
theorem Sep.lt {w : World} {rs : List Res} (h : Sep w rs) : ∀ k ∈ feet rs, k < w.heap.size := fun k hk => by
  obtain ⟨r, hr, hk⟩ := mem_feet.1 hk
  exact r.lt w (h.all r hr) k hk
theorem Sep.perm {w : World} {rs rs' : List Res} (h : Sep w rs) (hp : rs.Perm rs') : Sep w rs' :=
  ⟨fun r hr => h.all r (hp.mem_iff.2 hr), (List.Perm.nodup_iff (hp.flatMap_right _)).1 h.nodup⟩
theorem Sep.left {w : World} {a b : List Res} (h : Sep w (a ++ b)) : Sep w a :=
  ⟨fun r hr => h.all r (by simp [hr]), by have := h.nodup; rw [feet_append] at this; exact (List.nodup_append.1 this).1⟩
theorem Sep.right {w : World} {a b : List Res} (h : Sep w (a ++ b)) : Sep w b :=
  ⟨fun r hr => h.all r (by simp [hr]), by have := h.nodup; rw [feet_append] at this; exact (List.nodup_append.1 this).2.1⟩
theorem Sep.apart {w : World} {a b : List Res} (h : Sep w (a ++ b)) : ∀ k ∈ feet a, k ∉ feet b := fun k hk hk2 => by
  have := h.nodup
  rw [feet_append] at this
  exact (List.nodup_append.1 this).2.2 k hk k hk2 rfl
theorem Sep.keep {w w' : World} {rs : List Res} (h : Sep w rs) (hk : ∀ k ∈ feet rs, w'.heap[k]? = w.heap[k]?) : Sep w' rs :=
  ⟨fun r hr => r.keep w w' (h.all r hr) fun k hk2 => hk k (mem_feet.2 ⟨r, hr, hk2⟩), h.nodup⟩
theorem Sep.below {w w' : World} {rs : List Res} (h : Sep w rs) (hb : Below w.heap.size w w') : Sep w' rs := h.keep fun k hk => hb.block k (h.lt k hk)

/-- What is held, and that of what was there only F was changed; what is held lies in F, or is new. -/
structure Trk (w0 : World) (F : List Nat) (w : World) (rs : List Res) : Prop where
  sep : Sep w rs
  only : Only (fun k => k ∈ F) w0 w
  foot : ∀ k ∈ feet rs, k ∈ F ∨ w0.heap.size ≤ k
theorem Trk.start {w : World} {rs : List Res} (h : Sep w rs) : Trk w (feet rs) w rs := ⟨h, Only.refl _ _, fun _ hk => .inl hk⟩
theorem Trk.perm {w0 w : World} {F : List Nat} {rs rs' : List Res} (h : Trk w0 F w rs) (hp : rs.Perm rs') : Trk w0 F w rs' :=
  ⟨h.sep.perm hp, h.only, fun k hk => h.foot k ((hp.flatMap_right _).mem_iff.2 hk)⟩
theorem Trk.right {w0 w : World} {F : List Nat} {a b : List Res} (h : Trk w0 F w (a ++ b)) : Trk w0 F w b :=
  ⟨h.sep.right, h.only, fun k hk => h.foot k (by rw [feet_append]; simp [hk])⟩
theorem Trk.drop {w0 w : World} {F : List Nat} {r : Res} {b : List Res} (h : Trk w0 F w (r :: b)) : Trk w0 F w b := Trk.right (a := [r]) h
/-- A callee's part of what is held. -/
theorem Trk.call {w0 w w' : World} {F : List Nat} {rs rs' rest : List Res} (h : Trk w0 F w (rs ++ rest)) (hc : Trk w (feet rs) w' rs') : Trk w0 F w' (rs' ++ rest) := by
  have hrest : Sep w' rest := h.sep.right.keep fun k hk => hc.only.block k (h.sep.right.lt k hk) (fun hk2 => h.sep.apart k hk2 hk)
  refine ⟨⟨fun r hr => ?_, ?_⟩, h.only.trans hc.only (fun i hi hs => ?_), fun k hk => ?_⟩
  · rcases List.mem_append.1 hr with hr | hr
    · exact hc.sep.all r hr
    · exact hrest.all r hr
  · rw [feet_append, List.nodup_append]
    refine ⟨hc.sep.nodup, hrest.nodup, fun k hk j hj e => ?_⟩
    subst e
    rcases hc.foot k hk with hk2 | hk2
    · exact h.sep.apart k hk2 hj
    · have := h.sep.right.lt k hj; omega
  · rcases h.foot i (by rw [feet_append]; simp [hs]) with h2 | h2
    · exact h2
    · omega
  · rw [feet_append] at hk
    rcases List.mem_append.1 hk with hk | hk
    · rcases hc.foot k hk with hk2 | hk2
      · exact h.foot k (by rw [feet_append]; simp [hk2])
      · exact .inr (Nat.le_trans h.only.size hk2)
    · exact h.foot k (by rw [feet_append]; simp [hk])
theorem Trk.below {w0 w w' : World} {F : List Nat} {rs : List Res} (h : Trk w0 F w rs) (hb : Below w.heap.size w w') : Trk w0 F w' rs :=
  ⟨h.sep.below hb, h.only.trans (Only.of_none (S := fun _ => False) hb) (fun _ _ hf => hf.elim), h.foot⟩
theorem Trk.drew {w0 w : World} {F : List Nat} {rs : List Res} (h : Trk w0 F w rs) : Trk w0 F w.drew rs := h.below (Below.refl _ _).drew
/-- One resource changed. -/
theorem Trk.one {w0 w w' : World} {F : List Nat} {r r' : Res} {rest : List Res} (h : Trk w0 F w (r :: rest)) (hr : r'.holds w') (hn : r'.foot.Nodup) (hf : ∀ k ∈ r'.foot, k ∈ r.foot ∨ w.heap.size ≤ k)
    (ho : Only (fun k => k ∈ r.foot) w w') : Trk w0 F w' (r' :: rest) := by
  have e : feet [r] = r.foot := by simp [feet]
  have e' : feet [r'] = r'.foot := by simp [feet]
  refine Trk.call (rs := [r]) (rs' := [r']) h ⟨⟨fun x hx => ?_, by rw [e']; exact hn⟩, by rw [e]; exact ho, by rw [e, e']; exact hf⟩
  rw [List.mem_singleton] at hx
  subst hx
  exact hr
/-- A new resource. -/
theorem Trk.new {w0 w w' : World} {F : List Nat} {r : Res} {rs : List Res} (h : Trk w0 F w rs) (hr : r.holds w') (hn : r.foot.Nodup) (hf : ∀ k ∈ r.foot, w.heap.size ≤ k) (hb : Below w.heap.size w w') : Trk w0 F w' (r :: rs) := by
  refine Trk.call (rs := []) (rs' := [r]) (rest := rs) h ⟨⟨fun x hx => ?_, by simpa [feet] using hn⟩, Only.of_none hb, fun k hk => .inr (hf k (by simpa [feet] using hk))⟩
  rw [List.mem_singleton] at hx
  subst hx
  exact hr
theorem Trk.blkSet {w0 w : World} {F : List Nat} {b : Nat} {t : TypeId} {cs : List Value} {rest : List Res} (h : Trk w0 F w (Res.blk b t cs :: rest)) (i : Nat) (u : Value) : Trk w0 F (w.setCell ⟨b, i, none⟩ u) (Res.blk b t (cs.set i u) :: rest) :=
  h.one (Blk.set (h.sep.all (Res.blk b t cs) (by simp)) i u) (by simp [Res.blk]) (fun k hk => .inl hk)
    (Only.setCell (S := fun k => k ∈ (Res.blk b t cs).foot) (Only.refl _ w) (p := ⟨b, i, none⟩) (fun _ => by simp [Res.blk]) u)
theorem ownBlock_nodup (v : Value) : v.ownBlock.toList.Nodup := by cases v.ownBlock <;> simp
/-- append, Insert, Delete and their like: a slice of one's own, in its place or a new one. -/
theorem Trk.ownTo {w0 w w' : World} {F : List Nat} {e : TypeId} {sz n n' : Nat} {v v' : Value} {cs cs' : List Value} {rest : List Res} (h : Trk w0 F w (Res.own e sz v n cs :: rest)) (hr : Own w' e sz v' n' cs')
    (ho : Only (fun k => v.ownBlock = some k) w w') (hv : ∀ k, v'.ownBlock = some k → v.ownBlock = some k ∨ w.heap.size ≤ k) : Trk w0 F w' (Res.own e sz v' n' cs' :: rest) :=
  h.one hr (ownBlock_nodup v') (fun k hk => by
    have h2 : v'.ownBlock = some k := by simpa [Res.own] using hk
    rcases hv k h2 with h3 | h3
    · exact .inl (by simp [Res.own, h3])
    · exact .inr h3) (ho.mono fun i _ hi => by simp [Res.own, hi])
theorem Trk.blk {w0 w : World} {F : List Nat} {b : Nat} {t : TypeId} {cs : List Value} {rs : List Res} (h : Trk w0 F w rs) (hm : Res.blk b t cs ∈ rs) : Blk w b t cs := h.sep.all _ hm
theorem Trk.own {w0 w : World} {F : List Nat} {e : TypeId} {sz n : Nat} {v : Value} {cs : List Value} {rs : List Res} (h : Trk w0 F w rs) (hm : Res.own e sz v n cs ∈ rs) : Own w e sz v n cs := h.sep.all _ hm
theorem perm_mid {α : Type} (A L C R : List α) : (A ++ (L ++ (C ++ R))).Perm (C ++ (A ++ (L ++ R))) := by
  have h1 : (A ++ (L ++ (C ++ R))) = (A ++ L) ++ (C ++ R) := by simp
  have h2 : (C ++ (A ++ (L ++ R))) = C ++ ((A ++ L) ++ R) := by simp
  rw [h1, h2, ← List.append_assoc, ← List.append_assoc]
  exact List.Perm.append_right _ List.perm_append_comm
end Go.Afx
/- Pages in memory: each page's own block, its entries' and its pointers'. -/
namespace Go.Afx
open Go Go.RowKit

/-- A key as a string. -/
def kb (k : Key) : ByteArray := ⟨k.toArray⟩
def enC (es : List En) : List Value := (es.map fun e => [.string (kb e.key), e.val]).flatten
theorem enC_append (a b : List En) : enC (a ++ b) = enC a ++ enC b := by simp [enC]
theorem enC_length (es : List En) : (enC es).length = es.length * 2 := by
  unfold enC
  induction es with
  | nil => rfl
  | cons e es ih => simp only [List.map_cons, List.flatten_cons, List.length_append, ih, List.length_cons, List.length_nil]; omega
/-- Pages with where they lie: the page's block, its entries' slice, its pages' slice. -/
inductive P where
  | node (b : Nat) (av : Value) (es : List En) (bv : Value) (ks : List P)
def P.blk : P → Nat | .node b _ _ _ _ => b
def P.ks : P → List P | .node _ _ _ _ ks => ks
def P.es : P → List En | .node _ _ es _ _ => es
def ptrV (b : Nat) : Value := .pointer (some ⟨b, 0, none⟩)
def ptrs (ks : List P) : List Value := ks.map fun k => ptrV k.blk
mutual
/-- The pages alone. -/
def P.t : P → T
  | .node _ _ es _ ks => .node es (P.tL ks)
def P.tL : List P → List T
  | [] => []
  | k :: ks => k.t :: P.tL ks
end
theorem P.tL_map : ∀ ks : List P, P.tL ks = ks.map P.t
  | [] => rfl
  | k :: ks => by rw [P.tL, P.tL_map ks]; rfl
theorem P.t_node (b : Nat) (av : Value) (es : List En) (bv : Value) (ks : List P) : (P.node b av es bv ks).t = .node es (ks.map P.t) := by rw [P.t, P.tL_map]
mutual
/-- What pages hold: types pt (a page), et (an entry), qt (a pointer to a page). -/
def P.res (pt et qt : TypeId) : P → List Res
  | .node b av es bv ks => Res.blk b pt [av, bv] :: Res.own et 2 av es.length (enC es) :: Res.own qt 1 bv ks.length (ptrs ks) :: P.resL pt et qt ks
def P.resL (pt et qt : TypeId) : List P → List Res
  | [] => []
  | k :: ks => k.res pt et qt ++ P.resL pt et qt ks
end
section
variable {pt et qt : TypeId}
theorem P.res_node (b : Nat) (av : Value) (es : List En) (bv : Value) (ks : List P) : (P.node b av es bv ks).res pt et qt = Res.blk b pt [av, bv] :: Res.own et 2 av es.length (enC es) :: Res.own qt 1 bv ks.length (ptrs ks) :: P.resL pt et qt ks := by rw [P.res]
theorem P.resL_append : ∀ a b : List P, P.resL pt et qt (a ++ b) = P.resL pt et qt a ++ P.resL pt et qt b
  | [], _ => rfl
  | k :: a, b => by rw [List.cons_append, P.resL, P.resL_append a b, P.resL, List.append_assoc]
theorem P.resL_cons (k : P) (ks : List P) : P.resL pt et qt (k :: ks) = k.res pt et qt ++ P.resL pt et qt ks := by rw [P.resL]
theorem P.resL_nil : P.resL pt et qt [] = [] := by rw [P.resL]
end
end Go.Afx
/- Plain: keys as strings. -/
namespace Go.Afx
open Go Go.RowKit

@[go_sem] theorem run_store_gen {P : Program} {w : World} {a : Addr} {v : Value} {m : Mode} (hv : v.oneCell' = true) : (store a v m).run P w = stored P w a v m := run_store P w a v m hv
theorem kb_toList (a : Key) : (kb a).toList = a := by
  rw [ByteArray.toList_eq]
  simp [kb]
theorem klt_gt (a k : Key) : (!(Op.bytesLess a k || a == k)) = Op.bytesLess k a := by
  cases h : Op.bytesLess a k
  · by_cases e : a = k
    · subst e; rw [klt_irrefl]; simp
    · rw [klt_total a k h e, beq_eq_false_iff_ne.2 e]; rfl
  · rw [klt_asymm a k h]; rfl
theorem keq_lt (a k : Key) : (a == k) = (!Op.bytesLess a k && !Op.bytesLess k a) := by
  cases h : Op.bytesLess a k
  · by_cases e : a = k
    · subst e; simp [klt_irrefl]
    · rw [klt_total a k h e, beq_eq_false_iff_ne.2 e]; rfl
  · rw [beq_eq_false_iff_ne.2 (klt_ne h)]; rfl
theorem enC_at : ∀ (l : List En) (k : Nat) (hk : k < l.length), (enC l)[k * 2]? = some (.string (kb l[k].key)) ∧ (enC l)[k * 2 + 1]? = some l[k].val
  | [], k, h => absurd h (by simp)
  | e :: l, 0, _ => ⟨rfl, rfl⟩
  | e :: l, k + 1, h => by
    have ih := enC_at l k (by simpa using h)
    have e1 : (k + 1) * 2 = k * 2 + 1 + 1 := by omega
    have e2 : enC (e :: l) = .string (kb e.key) :: e.val :: enC l := rfl
    rw [e1, e2]
    exact ih
theorem sl_en {w : World} {B : Nat → Prop} {v : Value} {l : List En} (h : Sl w B 2 v l.length (enC l)) {k : Nat} (hk : k < l.length) :
    ∃ g off cap, v = .slice (some ⟨g, off, none⟩) l.length cap ∧ g < w.heap.size ∧ w.cell? ⟨g, off + k * 2, none⟩ = some (.string (kb l[k].key)) ∧ w.cell? ⟨g, off + k * 2 + 1, none⟩ = some l[k].val := by
  obtain ⟨g, off, cap, hv, _, _, hgb, hglt, hc⟩ := h.place (by omega)
  have he := enC_at l k hk
  exact ⟨g, off, cap, hv, hglt, by rw [hc _ (by rw [enC_length]; omega), he.1], by rw [Nat.add_assoc, hc _ (by rw [enC_length]; omega), he.2]⟩
theorem sl_ptr {w : World} {B : Nat → Prop} {v : Value} {l : List P} (h : Sl w B 1 v l.length (ptrs l)) {k : Nat} (hk : k < l.length) :
    ∃ g off cap, v = .slice (some ⟨g, off, none⟩) l.length cap ∧ g < w.heap.size ∧ w.cell? ⟨g, off + k, none⟩ = some (ptrV l[k].blk) := by
  obtain ⟨g, off, cap, hv, _, _, hgb, hglt, hc⟩ := h.place (by omega)
  exact ⟨g, off, cap, hv, hglt, by rw [hc k (by simpa [ptrs] using hk)]; simp [ptrs, hk]⟩
theorem pg_cells {w : World} {b : Nat} {t : TypeId} {av bv : Value} (h : Blk w b t [av, bv]) : w.cell? ⟨b, 0, none⟩ = some av ∧ w.cell? ⟨b, 1, none⟩ = some bv := ⟨h.cell 0, h.cell 1⟩
/-- insert: an entry between a page's entries. -/
theorem enC_ins (l : List En) (i : Nat) (x : En) : (enC l).take (i * 2) ++ ([.string (kb x.key), x.val] ++ (enC l).drop (i * 2)) = enC (insAt i x l) := by
  have h : ∀ (l : List En) (i : Nat), (enC l).take (i * 2) = enC (l.take i) ∧ (enC l).drop (i * 2) = enC (l.drop i) := by
    intro l
    induction l with
    | nil => intro i; simp [enC]
    | cons e l ih =>
      intro i
      cases i with
      | zero => simp [enC]
      | succ i =>
        have e2 : enC (e :: l) = .string (kb e.key) :: e.val :: enC l := rfl
        have e1 : (i + 1) * 2 = i * 2 + 1 + 1 := by omega
        rw [e1, e2]
        rw [List.take_succ_cons, List.take_succ_cons, List.drop_succ_cons, List.drop_succ_cons, List.take_succ_cons, List.drop_succ_cons, (ih i).1, (ih i).2]
        exact ⟨rfl, rfl⟩
  rw [(h l i).1, (h l i).2]
  unfold insAt
  have e3 : l.take i ++ x :: l.drop i = l.take i ++ ([x] ++ l.drop i) := rfl
  rw [e3, enC_append, enC_append]
  rfl
theorem insAt_length {α : Type} (i : Nat) (x : α) (l : List α) (h : i ≤ l.length) : (insAt i x l).length = l.length + 1 := by unfold insAt; simp; omega
/-- remove: an entry taken out. -/
theorem enC_del (l : List En) (i : Nat) : (enC l).take (i * 2) ++ (enC l).drop ((i + 1) * 2) = enC (l.take i ++ l.drop (i + 1)) := by
  have h : ∀ (l : List En) (i : Nat), (enC l).take (i * 2) = enC (l.take i) ∧ (enC l).drop (i * 2) = enC (l.drop i) := by
    intro l
    induction l with
    | nil => intro i; simp [enC]
    | cons e l ih =>
      intro i
      cases i with
      | zero => simp [enC]
      | succ i =>
        have e2 : enC (e :: l) = .string (kb e.key) :: e.val :: enC l := rfl
        have e1 : (i + 1) * 2 = i * 2 + 1 + 1 := by omega
        rw [e1, e2]
        rw [List.take_succ_cons, List.take_succ_cons, List.drop_succ_cons, List.drop_succ_cons, List.take_succ_cons, List.drop_succ_cons, (ih i).1, (ih i).2]
        exact ⟨rfl, rfl⟩
  rw [(h l i).1, (h l (i + 1)).2, enC_append]
end Go.Afx
/- Strings as elements of slices. -/
namespace Go.Proofs.Ytfnndifckgjmjaa
open Go.RowKit Go.Afx

def strs (l : List Key) : List Value := l.map fun k => .string (kb k)
theorem strs_append (a b : List Key) : strs (a ++ b) = strs a ++ strs b := by simp [strs]
theorem strs_length (a : List Key) : (strs a).length = a.length := by simp [strs]
theorem elemKey : Elem Try.prog 29 9 1 16 (.string ⟨#[]⟩) :=
  ⟨Try.underlying29, by kernel_rfl, rfl, by omega, by intro u hu; simp [Value.cells] at hu; subst hu; rfl⟩
end Go.Proofs.Ytfnndifckgjmjaa
/- The tree's laws: their own functions: Same, great, find. -/
namespace Go.Proofs.Ytfnndifckgjmjaa
open Go.RowKit Go.Afx

theorem sl_key {w : World} {B : Nat → Prop} {v : Value} {l : List Key} (h : Sl w B 1 v l.length (strs l)) {k : Nat} (hk : k < l.length) :
    ∃ g off cap, v = .slice (some ⟨g, off, none⟩) l.length cap ∧ g < w.heap.size ∧ w.cell? ⟨g, off + k, none⟩ = some (.string (kb l[k])) := by
  obtain ⟨g, off, cap, hv, _, _, _, hlt, hc⟩ := h.place (by omega)
  exact ⟨g, off, cap, hv, hlt, by rw [hc k (by simpa [strs] using hk)]; simp [strs, hk]⟩
set_option maxRecDepth 100000 in
set_option maxHeartbeats 1000000 in
theorem same_keys (w : World) (B B' : Nat → Prop) (va vb : Value) (x y : List Key) (ha : Sl w B 1 va x.length (strs x)) (hb : Sl w B' 1 vb y.length (strs y)) :
    Calls Try.prog 10 #[va, vb] w fun e w' => e = .returned (.bool (decide (x = y))) ∧ Below w.heap.size w w' := by
  obtain ⟨pa, ca, rfl, hca, hca2⟩ := ha.form
  obtain ⟨pb, cb, rfl, hcb, hcb2⟩ := hb.form
  have HA := Lib.hid ha
  have HB := Lib.hid hb
  clear ha hb
  by_cases hl : x.length = y.length
  · have HL := Lib.hid hl
    obtain ⟨n, hn⟩ : ∃ n, x.length = n := ⟨_, rfl⟩
    have hm : y.length = n := by omega
    rw [hm, hn]
    have HN := Lib.hid hn
    have HM := Lib.hid hm
    rw [hn] at hca
    clear hl hn hm hcb
    go_enter Try.func10, Try.ntmps10
    go_wp2
    go_loopw [5] (fun i wr => ∃ k : Nat, i = .int .i64 k ∧ k ≤ n ∧ Hid (x.take k = y.take k) ∧ Below w.heap.size w wr) (fun i _ => n - (intOf i).toNat)
    case atStart => exact ⟨0, rfl, Nat.zero_le _, Lib.hid (by simp), Below.refl _ _⟩
    case round =>
      obtain ⟨k, rfl, hk, hkt, hbel⟩ := hrel
      have HBL := Lib.hid hbel
      by_cases hkx : k < n
      · have hkx1 : k < x.length := by rw [HN.out]; exact hkx
        have hky1 : k < y.length := by rw [HM.out]; exact hkx
        obtain ⟨ga, oa, ca', hva, hga, ea⟩ := sl_key (HA.out.below hbel) hkx1
        obtain ⟨gb, ob, cb', hvb, hgb, eb⟩ := sl_key (HB.out.below hbel) hky1
        cases hva
        cases hvb
        have hx1 : x.take (k + 1) = x.take k ++ [x[k]] := by rw [List.take_succ_eq_append_getElem hkx1]
        have hy1 : y.take (k + 1) = y.take k ++ [y[k]] := by rw [List.take_succ_eq_append_getElem hky1]
        have hne : x[k] ≠ y[k] → x ≠ y := fun h e => h (by subst e; rfl)
        generalize x[k] = xv at *
        generalize y[k] = yv at *
        have HX := Lib.hid hx1
        have HY := Lib.hid hy1
        have HNE := Lib.hid hne
        have heq2 : ((kb xv).toList == (kb yv).toList) = (xv == yv) := by rw [kb_toList, kb_toList]
        clear hbel hx1 hy1 hne
        by_cases hv : xv = yv
        · have d2 : (xv == yv) = true := by simp [hv]
          rw [d2] at heq2
          have HV := Lib.hid hv
          clear hv d2
          go_wp2
          refine wp_region_lit_plan [] [(0, 0), (1, 0), (2, 0), (4, 0), (5, 0), (6, 0), (3, 1), (7, 1), (8, 0)] (fun _ => False) (by kernel_rfl) (by kernel_rfl) (fun c a d v w h => by cases d <;> exact h) ?_
          go_wp2_with (first
            | (refine plan_pure (v := _) (by rfl) (by rfl) (by rfl) (by intro _; go_simp; with_reducible rfl) ?_; simp only [List.setIfInBounds_toArray, List.set_cons_zero, List.set_cons_succ]; try go_bits) | (refine plan_read (v := _) (by rfl) (by rfl) (by rfl) (by go_simp; with_reducible rfl) ?_; simp only [List.setIfInBounds_toArray, List.set_cons_zero, List.set_cons_succ]; try go_bits) | (refine plan_readB (v := _) (by rfl) (by rfl) (by rfl) (by intro _ hag; unfold Agree at hag; go_simp; with_reducible rfl) ?_; simp only [List.setIfInBounds_toArray, List.set_cons_zero, List.set_cons_succ]; try go_bits) | (refine plan_skip0 (by rfl) (by rfl) (by rfl) ?_; simp only [List.setIfInBounds_toArray, List.set_cons_zero, List.set_cons_succ]; try go_bits) | (refine plan_skip1 (by rfl) (by rfl) (by rfl) ?_; simp only [List.setIfInBounds_toArray, List.set_cons_zero, List.set_cons_succ]; try go_bits) | (refine plan_skip2 (by rfl) (by rfl) (by rfl) ?_; simp only [List.setIfInBounds_toArray, List.set_cons_zero, List.set_cons_succ]; try go_bits) | (refine plan_skip4 (by rfl) (by rfl) (by rfl) ?_; simp only [List.setIfInBounds_toArray, List.set_cons_zero, List.set_cons_succ]; try go_bits) | (refine plan_any (by rfl) ?_) | (refine plan_keep (by rfl) ?_) | (refine plan_nil ?_) | (with_reducible refine And.intro (by first | assumption | exact Agree.refl _ _ | exact agree_drew _ _ | exact agree_alloc _ (by intro k hk; subst hk; first | omega | (simp; omega))) ?_) | (unfold Act.put; simp only [List.setIfInBounds_toArray, List.set_cons_zero, List.set_cons_succ]))
          go_roundw
          case rel => exact ⟨k + 1, by go_num, by omega, Lib.hid (by rw [HX.out, HY.out, hkt.out, HV.out]), HBL.out.drew⟩
          case measure => (simp [intOf]) <;> omega
        · have d2 : (xv == yv) = false := by simp [hv]
          rw [d2] at heq2
          have HV := Lib.hid hv
          clear hv d2
          go_wp2
          refine wp_region_lit_plan [] [(0, 0), (1, 0), (2, 0), (4, 0), (5, 0), (6, 0), (3, 1), (7, 1), (8, 0)] (fun _ => False) (by kernel_rfl) (by kernel_rfl) (fun c a d v w h => by cases d <;> exact h) ?_
          go_wp2_with (first
            | (refine plan_pure (v := _) (by rfl) (by rfl) (by rfl) (by intro _; go_simp; with_reducible rfl) ?_; simp only [List.setIfInBounds_toArray, List.set_cons_zero, List.set_cons_succ]; try go_bits) | (refine plan_read (v := _) (by rfl) (by rfl) (by rfl) (by go_simp; with_reducible rfl) ?_; simp only [List.setIfInBounds_toArray, List.set_cons_zero, List.set_cons_succ]; try go_bits) | (refine plan_readB (v := _) (by rfl) (by rfl) (by rfl) (by intro _ hag; unfold Agree at hag; go_simp; with_reducible rfl) ?_; simp only [List.setIfInBounds_toArray, List.set_cons_zero, List.set_cons_succ]; try go_bits) | (refine plan_skip0 (by rfl) (by rfl) (by rfl) ?_; simp only [List.setIfInBounds_toArray, List.set_cons_zero, List.set_cons_succ]; try go_bits) | (refine plan_skip1 (by rfl) (by rfl) (by rfl) ?_; simp only [List.setIfInBounds_toArray, List.set_cons_zero, List.set_cons_succ]; try go_bits) | (refine plan_skip2 (by rfl) (by rfl) (by rfl) ?_; simp only [List.setIfInBounds_toArray, List.set_cons_zero, List.set_cons_succ]; try go_bits) | (refine plan_skip4 (by rfl) (by rfl) (by rfl) ?_; simp only [List.setIfInBounds_toArray, List.set_cons_zero, List.set_cons_succ]; try go_bits) | (refine plan_any (by rfl) ?_) | (refine plan_keep (by rfl) ?_) | (refine plan_nil ?_) | (with_reducible refine And.intro (by first | assumption | exact Agree.refl _ _ | exact agree_drew _ _ | exact agree_alloc _ (by intro k hk; subst hk; first | omega | (simp; omega))) ?_) | (unfold Act.put; simp only [List.setIfInBounds_toArray, List.set_cons_zero, List.set_cons_succ]))
          go_ret
          exact ⟨by simp [HNE.out HV.out], HBL.out.drew⟩
      · have hk2 : k = n := by omega
        have hxy : x = y := by
          have h1 := hkt.out
          rw [hk2, ← HN.out, List.take_length, HN.out, ← HM.out, List.take_length] at h1
          exact h1
        have HXY := Lib.hid hxy
        clear hk2 hxy hbel
        go_wp2
        go_ret
        exact ⟨by simp [HXY.out], HBL.out⟩
  · have d1 : ((x.length : Int) != (y.length : Int)) = true := by rw [bne_iff_ne]; omega
    have hne : x ≠ y := fun e => hl (by rw [e])
    have HNE := Lib.hid hne
    clear hl hne
    go_enter Try.func10, Try.ntmps10
    go_wp2
    go_ret
    exact ⟨by simp [HNE.out], Below.refl _ _⟩
set_option maxRecDepth 100000 in
set_option maxHeartbeats 2000000 in
theorem lfind_any (w : World) (B : Nat → Prop) (v : Value) (l : List En) (k : Key) (h : Sl w B 2 v l.length (enC l)) (hn : l.length ≤ 1000000) :
    Calls Try.prog 27 #[v, .string (kb k)] w fun e w' => e = .returned (.tuple #[.int .i64 (pos k l : Nat), .bool (has k l)]) ∧ Below w.heap.size w w' := by
  obtain ⟨p, cap, rfl, hc1, hc2⟩ := h.form
  have HS := Lib.hid h
  have HP0 : Hid (pos k (l.drop 0) = pos k l) := by show _ = _; rw [List.drop_zero]
  have HH : Hid (has k l = match l[pos k l]? with | some e => e.key == k | none => false) := rfl
  have hple := pos_le k l
  generalize has k l = hs at *
  generalize hq : pos k l = q at *
  obtain ⟨n, hnn⟩ : ∃ n, l.length = n := ⟨_, rfl⟩
  rw [hnn] at hc1 hple hn ⊢
  have HN := Lib.hid hnn
  clear h hnn hq
  go_enter Try.func27, Try.ntmps27
  go_wp2
  go_loopw [6] (fun i wr => ∃ j : Nat, i = .int .i64 j ∧ j ≤ n ∧ j + pos k (l.drop j) = q ∧ Below w.heap.size w wr) (fun i _ => n - (intOf i).toNat)
  case atStart => exact ⟨0, rfl, Nat.zero_le _, by rw [Nat.zero_add]; exact HP0.out, Below.refl _ _⟩
  case round =>
    obtain ⟨j, rfl, hj, hjq, hb⟩ := hrel
    have HB := Lib.hid hb
    have HJQ := Lib.hid hjq
    by_cases hjn : j < n
    · have hjl : j < l.length := by rw [HN.out]; exact hjn
      obtain ⟨g, off, cap', hv, hg, e0, e1⟩ := sl_en (HS.out.below hb) hjl
      rw [HN.out] at hv
      cases hv
      have hd : l.drop j = l[j] :: l.drop (j + 1) := List.drop_eq_getElem_cons hjl
      have hgl : l[j]? = some l[j] := List.getElem?_eq_getElem hjl
      have HPOS : Hid (pos k (l.drop j) = if Op.bytesLess (l[j]).key k then pos k (l.drop (j + 1)) + 1 else 0) := by show _ = _; rw [hd, pos]
      have HGL := Lib.hid hgl
      generalize l[j] = x at *
      have hlt : Op.bytesLess (kb x.key).toList (kb k).toList = Op.bytesLess x.key k := by rw [kb_toList, kb_toList]
      have heq2 : ((kb x.key).toList == (kb k).toList) = (x.key == k) := by rw [kb_toList, kb_toList]
      obtain ⟨lt, hltq⟩ : ∃ lt, Op.bytesLess x.key k = lt := ⟨_, rfl⟩
      rw [hltq] at hlt HPOS
      clear hb hd hjq hgl hltq
      cases lt
      · have hpz : pos k (l.drop j) = 0 := HPOS.out
        obtain rfl : q = j := by have h1 := HJQ.out; omega
        have HHS : Hid (hs = (x.key == k)) := by show _ = _; rw [HH.out, HGL.out]
        obtain ⟨kq, hkq⟩ : ∃ kq, (x.key == k) = kq := ⟨_, rfl⟩
        rw [hkq] at heq2 HHS
        obtain rfl : hs = kq := HHS.out
        clear hpz HPOS HHS hkq HH HP0 HJQ
        go_wp2
        refine wp_region_lit_plan [] [(0, 0), (1, 0), (2, 0), (3, 0), (4, 0), (5, 0), (6, 0), (7, 0), (8, 0), (9, 0), (11, 0), (14, 0), (10, 1), (12, 0), (13, 0), (15, 0)] (fun _ => False) (by kernel_rfl) (by kernel_rfl) (fun c a d v w h => by cases d <;> exact h) ?_
        go_wp2_with (first
          | (refine plan_pure (v := _) (by rfl) (by rfl) (by rfl) (by intro _; go_simp; with_reducible rfl) ?_; simp only [List.setIfInBounds_toArray, List.set_cons_zero, List.set_cons_succ]; try go_bits) | (refine plan_read (v := _) (by rfl) (by rfl) (by rfl) (by go_simp; with_reducible rfl) ?_; simp only [List.setIfInBounds_toArray, List.set_cons_zero, List.set_cons_succ]; try go_bits) | (refine plan_readB (v := _) (by rfl) (by rfl) (by rfl) (by intro _ hag; unfold Agree at hag; go_simp; with_reducible rfl) ?_; simp only [List.setIfInBounds_toArray, List.set_cons_zero, List.set_cons_succ]; try go_bits) | (refine plan_skip0 (by rfl) (by rfl) (by rfl) ?_; simp only [List.setIfInBounds_toArray, List.set_cons_zero, List.set_cons_succ]; try go_bits) | (refine plan_skip1 (by rfl) (by rfl) (by rfl) ?_; simp only [List.setIfInBounds_toArray, List.set_cons_zero, List.set_cons_succ]; try go_bits) | (refine plan_skip2 (by rfl) (by rfl) (by rfl) ?_; simp only [List.setIfInBounds_toArray, List.set_cons_zero, List.set_cons_succ]; try go_bits) | (refine plan_skip4 (by rfl) (by rfl) (by rfl) ?_; simp only [List.setIfInBounds_toArray, List.set_cons_zero, List.set_cons_succ]; try go_bits) | (refine plan_any (by rfl) ?_) | (refine plan_keep (by rfl) ?_) | (refine plan_nil ?_) | (with_reducible refine And.intro (by first | assumption | exact Agree.refl _ _ | exact agree_drew _ _ | exact agree_alloc _ (by intro k hk; subst hk; first | omega | (simp; omega))) ?_) | (unfold Act.put; simp only [List.setIfInBounds_toArray, List.set_cons_zero, List.set_cons_succ]))
        exact bodyPost_ret (v := .tuple #[.int .i64 (q : Nat), .bool hs]) (by simp [results, Try.results27, go_sem]) rfl ⟨rfl, HB.out.drew⟩
      · have hpz : pos k (l.drop j) = pos k (l.drop (j + 1)) + 1 := HPOS.out
        have HNX : Hid (j + 1 + pos k (l.drop (j + 1)) = q) := by show _ = _; have := HJQ.out; omega
        clear hpz HPOS
        go_wp2
        go_roundw
        case rel => exact ⟨j + 1, by go_num, by omega, HNX.out, HB.out⟩
        case measure => (simp [intOf]) <;> omega
    · obtain rfl : j = n := by omega
      have hdn : l.drop j = [] := List.drop_eq_nil_of_le (by rw [HN.out]; omega)
      obtain rfl : q = j := by rw [hdn] at hjq; simpa [pos] using hjq.symm
      have HHS : Hid (hs = false) := by show _ = _; rw [HH.out, List.getElem?_eq_none (by rw [HN.out]; omega)]
      obtain rfl := HHS.out
      clear hb hdn hjq HH HHS HP0 HJQ
      go_wp2
      refine wp_region_lit_plan [] [(0, 0), (1, 0), (2, 0), (3, 0), (4, 0), (5, 0), (6, 0), (7, 0), (8, 0), (9, 0), (11, 0), (14, 0), (10, 1), (12, 0), (13, 0), (15, 0)] (fun _ => False) (by kernel_rfl) (by kernel_rfl) (fun c a d v w h => by cases d <;> exact h) ?_
      go_wp2_with (first
        | (refine plan_pure (v := _) (by rfl) (by rfl) (by rfl) (by intro _; go_simp; with_reducible rfl) ?_; simp only [List.setIfInBounds_toArray, List.set_cons_zero, List.set_cons_succ]; try go_bits) | (refine plan_read (v := _) (by rfl) (by rfl) (by rfl) (by go_simp; with_reducible rfl) ?_; simp only [List.setIfInBounds_toArray, List.set_cons_zero, List.set_cons_succ]; try go_bits) | (refine plan_readB (v := _) (by rfl) (by rfl) (by rfl) (by intro _ hag; unfold Agree at hag; go_simp; with_reducible rfl) ?_; simp only [List.setIfInBounds_toArray, List.set_cons_zero, List.set_cons_succ]; try go_bits) | (refine plan_skip0 (by rfl) (by rfl) (by rfl) ?_; simp only [List.setIfInBounds_toArray, List.set_cons_zero, List.set_cons_succ]; try go_bits) | (refine plan_skip1 (by rfl) (by rfl) (by rfl) ?_; simp only [List.setIfInBounds_toArray, List.set_cons_zero, List.set_cons_succ]; try go_bits) | (refine plan_skip2 (by rfl) (by rfl) (by rfl) ?_; simp only [List.setIfInBounds_toArray, List.set_cons_zero, List.set_cons_succ]; try go_bits) | (refine plan_skip4 (by rfl) (by rfl) (by rfl) ?_; simp only [List.setIfInBounds_toArray, List.set_cons_zero, List.set_cons_succ]; try go_bits) | (refine plan_any (by rfl) ?_) | (refine plan_keep (by rfl) ?_) | (refine plan_nil ?_) | (with_reducible refine And.intro (by first | assumption | exact Agree.refl _ _ | exact agree_drew _ _ | exact agree_alloc _ (by intro k hk; subst hk; first | omega | (simp; omega))) ?_) | (unfold Act.put; simp only [List.setIfInBounds_toArray, List.set_cons_zero, List.set_cons_succ]))
      exact bodyPost_ret (v := .tuple #[.int .i64 (q : Nat), .bool false]) (by simp [results, Try.results27, go_sem]) rfl ⟨rfl, HB.out.drew⟩
end Go.Proofs.Ytfnndifckgjmjaa
/- The tree's laws: their own functions: great, told. -/
namespace Go.Proofs.Ytfnndifckgjmjaa
open Go.RowKit Go.Afx

structure TAct where
  kind : Int
  key : Key
  val : Int
def TAct.cells (a : TAct) : List Value := [.int .i64 a.kind, .string (kb a.key), .int .i64 a.val]
def actC (l : List TAct) : List Value := (l.map TAct.cells).flatten
theorem actC_length (l : List TAct) : (actC l).length = l.length * 3 := by
  induction l with
  | nil => rfl
  | cons a l ih => unfold actC at ih ⊢; simp only [List.map_cons, List.flatten_cons, List.length_append, ih, List.length_cons]; simp [TAct.cells]; omega
theorem actC_at : ∀ (l : List TAct) (k : Nat) (hk : k < l.length), (actC l)[k * 3]? = some (.int .i64 l[k].kind) ∧ (actC l)[k * 3 + 1]? = some (.string (kb l[k].key)) ∧ (actC l)[k * 3 + 2]? = some (.int .i64 l[k].val)
  | [], k, h => absurd h (by simp)
  | e :: l, 0, _ => ⟨rfl, rfl, rfl⟩
  | e :: l, k + 1, h => by
    have ih := actC_at l k (by simpa using h)
    have e1 : (k + 1) * 3 = k * 3 + 1 + 1 + 1 := by omega
    have e2 : actC (e :: l) = .int .i64 e.kind :: .string (kb e.key) :: .int .i64 e.val :: actC l := rfl
    rw [e1, e2]
    exact ih
theorem sl_act {w : World} {B : Nat → Prop} {v : Value} {l : List TAct} (h : Sl w B 3 v l.length (actC l)) {k : Nat} (hk : k < l.length) :
    ∃ g off cap, v = .slice (some ⟨g, off, none⟩) l.length cap ∧ g < w.heap.size ∧ w.cell? ⟨g, off + k * 3, none⟩ = some (.int .i64 l[k].kind) ∧ w.cell? ⟨g, off + k * 3 + 1, none⟩ = some (.string (kb l[k].key)) ∧ w.cell? ⟨g, off + k * 3 + 2, none⟩ = some (.int .i64 l[k].val) := by
  obtain ⟨g, off, cap, hv, _, _, hgb, hglt, hc⟩ := h.place (by omega)
  have he := actC_at l k hk
  have hl := actC_length l
  exact ⟨g, off, cap, hv, hglt, by rw [hc _ (by omega), he.1], by rw [Nat.add_assoc, hc _ (by omega), he.2.1], by rw [Nat.add_assoc, hc _ (by omega), he.2.2]⟩
theorem kb_size (a : Key) : (kb a).size = a.length := by simp [kb, ByteArray.size]
set_option maxRecDepth 100000 in
set_option maxHeartbeats 1000000 in
theorem great_any (w : World) (B : Nat → Prop) (v : Value) (l : List TAct) (h : Sl w B 3 v l.length (actC l)) :
    Calls Try.prog 7 #[v] w fun e w' => ∃ b, e = .returned (.bool b) ∧ Below w.heap.size w w' ∧ (b = false → l.length ≤ 150 ∧ ∀ a ∈ l, a.key.length ≤ 100) := by
  obtain ⟨p, cap, rfl, hc1, hc2⟩ := h.form
  have HS := Lib.hid h
  clear h
  obtain ⟨n, hnn⟩ : ∃ n, l.length = n := ⟨_, rfl⟩
  rw [hnn] at hc1 ⊢
  have HN := Lib.hid hnn
  clear hnn
  by_cases hl : 150 < n
  · go_enter Try.func7, Try.ntmps7
    go_wp2
    go_ret
    exact ⟨true, rfl, Below.refl _ _, by simp⟩
  · go_enter Try.func7, Try.ntmps7
    go_wp2
    go_loopw [3] (fun i wr => ∃ k : Nat, i = .int .i64 k ∧ k ≤ n ∧ Hid (∀ a ∈ l.take k, a.key.length ≤ 100) ∧ Below w.heap.size w wr) (fun i _ => n - (intOf i).toNat)
    case atStart => exact ⟨0, rfl, Nat.zero_le _, Lib.hid (by simp), Below.refl _ _⟩
    case round =>
      obtain ⟨k, rfl, hk, hkt, hbel⟩ := hrel
      have HBL := Lib.hid hbel
      by_cases hkx : k < n
      · have hkl : k < l.length := by rw [HN.out]; exact hkx
        obtain ⟨g, off, cap', hv, hg, e0, e1, e2⟩ := sl_act (HS.out.below hbel) hkl
        rw [HN.out] at hv
        cases hv
        have hx1 : l.take (k + 1) = l.take k ++ [l[k]] := by rw [List.take_succ_eq_append_getElem hkl]
        generalize l[k] = x at *
        have HX := Lib.hid hx1
        have hsz : (kb x.key).size = x.key.length := kb_size _
        obtain ⟨kl, hkle⟩ : ∃ kl, x.key.length = kl := ⟨_, rfl⟩
        rw [hkle] at hsz
        have HKL := Lib.hid hkle
        clear hbel hx1 hkle
        by_cases hb : 100 < kl
        · go_wp2
          go_ret
          exact ⟨true, rfl, HBL.out, by simp⟩
        · go_wp2
          go_roundw
          case rel => exact ⟨k + 1, by go_num, by omega, Lib.hid (by
            rw [HX.out]
            intro a ha
            rcases List.mem_append.1 ha with h1 | h1
            · exact hkt.out a h1
            · rw [List.mem_singleton.1 h1, HKL.out]; omega), HBL.out⟩
          case measure => (simp [intOf]) <;> omega
      · have hk2 : k = n := by omega
        clear hbel
        go_wp2
        go_ret
        refine ⟨false, rfl, HBL.out, fun _ => ⟨by omega, ?_⟩⟩
        have h1 := hkt.out
        rw [hk2, ← HN.out, List.take_length] at h1
        exact h1
set_option maxRecDepth 100000 in
set_option maxHeartbeats 2000000 in
theorem told_any (w : World) (B : Nat → Prop) (v : Value) (l : List En) (i : Int) (k : Key) (n : Int) (ok : Bool) (h : Sl w B 2 v l.length (enC l)) (hn : l.length ≤ 1000000)
    (ht : (0 ≤ i ∧ ∃ e, l[i.toNat]? = some e ∧ k = e.key ∧ Value.int .i64 n = e.val ∧ ok = true) ∨ ((i < 0 ∨ l[i.toNat]? = none) ∧ k = [] ∧ n = 0 ∧ ok = false)) :
    Calls Try.prog 42 #[v, .int .i64 i, .string (kb k), .int .i64 n, .bool ok] w fun e w' => e = .returned (.bool true) ∧ Below w.heap.size w w' := by
  obtain ⟨p, cap, rfl, hc1, hc2⟩ := h.form
  have HS := Lib.hid h
  clear h
  obtain ⟨m, hmm⟩ : ∃ m, l.length = m := ⟨_, rfl⟩
  rw [hmm] at hc1 hn ⊢
  have HN := Lib.hid hmm
  clear hmm
  rcases ht with ⟨hi, e, he, rfl, hv, rfl⟩ | ⟨hi, rfl, rfl, rfl⟩
  · obtain ⟨j, rfl⟩ : ∃ j : Nat, i = (j : Int) := ⟨i.toNat, by omega⟩
    rw [Int.toNat_natCast] at he
    obtain ⟨hjl, he2⟩ := List.getElem?_eq_some_iff.1 he
    have hjm : j < m := by rw [← HN.out]; exact hjl
    obtain ⟨g, off, cap', hv2, hg, e0, e1⟩ := sl_en HS.out hjl
    rw [HN.out] at hv2
    cases hv2
    rw [he2] at e0 e1
    rw [← hv] at e1
    have hkk : ((kb e.key).toList == (kb e.key).toList) = true := beq_self_eq_true _
    generalize kb e.key = kq at *
    clear he he2 hv
    go_enter Try.func42, Try.ntmps42
    go_wp2
    go_ret
    exact ⟨rfl, Below.refl _ _⟩
  · have hnil : (kb []).toList = [] := kb_toList _
    generalize kb [] = kn at *
    by_cases hi0 : i < 0
    · go_enter Try.func42, Try.ntmps42
      go_wp2
      go_ret
      exact ⟨rfl, Below.refl _ _⟩
    · have him : (m : Int) ≤ i := by
        rcases hi with h1 | h1
        · omega
        · rw [List.getElem?_eq_none_iff, HN.out] at h1
          omega
      clear hi
      go_enter Try.func42, Try.ntmps42
      go_wp2
      go_ret
      exact ⟨rfl, Below.refl _ _⟩
end Go.Proofs.Ytfnndifckgjmjaa
/- Memory as resources: another order; a callee's part. -/
namespace Go.Afx
open Go Go.RowKit

open Classical in
/-- How often something is held. -/
noncomputable def cnt (a : Res) : List Res → Nat
  | [] => 0
  | r :: rs => (if r = a then 1 else 0) + cnt a rs
open Classical in
noncomputable def ind (a r : Res) : Nat := if r = a then 1 else 0
theorem cnt_nil (a : Res) : cnt a [] = 0 := rfl
theorem cnt_cons (a r : Res) (rs : List Res) : cnt a (r :: rs) = ind a r + cnt a rs := rfl
theorem cnt_append (a : Res) : ∀ x y : List Res, cnt a (x ++ y) = cnt a x + cnt a y
  | [], y => by rw [List.nil_append, cnt_nil, Nat.zero_add]
  | r :: x, y => by rw [List.cons_append, cnt_cons, cnt_cons, cnt_append a x y, Nat.add_assoc]
theorem cnt_mem {a : Res} : ∀ {l : List Res}, 0 < cnt a l → a ∈ l
  | [], h => by rw [cnt_nil] at h; omega
  | r :: l, h => by
    by_cases e : r = a
    · rw [e]; simp
    · rw [cnt_cons, ind, if_neg e] at h
      exact List.mem_cons_of_mem _ (cnt_mem (by omega))
theorem ind_self (a : Res) : ind a a = 1 := by rw [ind, if_pos rfl]
theorem perm_of_cnt : ∀ {x y : List Res}, (∀ a, cnt a x = cnt a y) → x.Perm y
  | [], y, h => by
    cases y with
    | nil => exact List.Perm.nil
    | cons r y => have := h r; rw [cnt_nil, cnt_cons, ind_self] at this; omega
  | r :: x, y, h => by
    have h1 := h r
    rw [cnt_cons, ind_self] at h1
    obtain ⟨a, b, rfl⟩ := List.append_of_mem (cnt_mem (a := r) (l := y) (by omega))
    refine (List.Perm.cons r (perm_of_cnt (y := a ++ b) fun q => ?_)).trans List.perm_middle.symm
    have h2 := h q
    rw [cnt_cons, cnt_append, cnt_cons] at h2
    rw [cnt_append]
    omega
/-- A callee's part of what is held, whatever the order. -/
theorem Trk.use {w0 w w' : World} {F : List Nat} {rs cal cal' rest : List Res} (h : Trk w0 F w rs) (hp : rs.Perm (cal ++ rest)) (hc : Trk w (feet cal) w' cal') : Trk w0 F w' (cal' ++ rest) := (h.perm hp).call hc
theorem Trk.sepOf {w0 w : World} {F : List Nat} {rs cal rest : List Res} (h : Trk w0 F w rs) (hp : rs.Perm (cal ++ rest)) : Sep w cal := (h.perm hp).sep.left
/-- What is told of a part is told of the whole. -/
theorem Trk.lift {w0 w : World} {rs cal : List Res} {F : List Nat} (h : Trk w0 F w rs) (hF : F = feet cal) : Trk w0 (feet cal) w rs := hF ▸ h
theorem Trk.widen {w0 w : World} {F F' : List Nat} {rs : List Res} (h : Trk w0 F w rs) (hF : ∀ k ∈ F, k ∈ F') : Trk w0 F' w rs := ⟨h.sep, h.only.mono fun i _ hi => hF i hi, fun k hk => (h.foot k hk).imp (hF k) id⟩
theorem feet_perm {x y : List Res} (h : x.Perm y) : ∀ k ∈ feet x, k ∈ feet y := fun k hk => by
  obtain ⟨r, hr, hk⟩ := mem_feet.1 hk
  exact mem_feet.2 ⟨r, h.mem_iff.1 hr, hk⟩
theorem Trk.from {w0 w : World} {x y : List Res} {rs : List Res} (h : Trk w0 (feet x) w rs) (hp : x.Perm y) : Trk w0 (feet y) w rs := h.widen (feet_perm hp)
theorem Trk.split2 {w0 w : World} {F : List Nat} {a b : List Res} (h : Trk w0 F w (a ++ b)) : Trk w0 F w a := ⟨h.sep.left, h.only, fun k hk => h.foot k (by rw [feet_append]; simp [hk])⟩
theorem Trk.of_below {w w' : World} {rs : List Res} (h : Sep w rs) (hb : Below w.heap.size w w') : Trk w (feet rs) w' rs := (Trk.start h).below hb
end Go.Afx
/- Memory of pages: cut slices; a page and its parts as resources. -/
namespace Go.Afx
open Go Go.RowKit

theorem Own.cut {w : World} {e : TypeId} {sz n g off cap : Nat} {cs : List Value} (h : Own w e sz (.slice (some ⟨g, off, none⟩) n cap) n cs) {m c : Nat} (hm : m ≤ n) (hmc : m ≤ c) (hc : c ≤ cap) :
    Own w e sz (.slice (some ⟨g, off, none⟩) m c) m (cs.take (m * sz)) := by
  have h2 := h.take hm
  refine ⟨h2.1, h2.2.1, ?_⟩
  rcases h2.2.2 with ⟨h0, _⟩ | ⟨g', off', cap', cur, hv, hb, h3, h4, h5, h6⟩
  · cases h0
  · cases hv
    have := Nat.mul_le_mul_right sz hc
    exact .inr ⟨g, off, c, cur, rfl, hb, hmc, by omega, by omega, h6⟩
theorem enC_td : ∀ (l : List En) (i : Nat), (enC l).take (i * 2) = enC (l.take i) ∧ (enC l).drop (i * 2) = enC (l.drop i)
  | [], i => by simp [enC]
  | e :: l, 0 => by simp [enC]
  | e :: l, i + 1 => by
    have ih := enC_td l i
    have e2 : enC (e :: l) = .string (kb e.key) :: e.val :: enC l := rfl
    have e1 : (i + 1) * 2 = i * 2 + 1 + 1 := by omega
    rw [e1, e2]
    rw [List.take_succ_cons, List.take_succ_cons, List.drop_succ_cons, List.drop_succ_cons, List.take_succ_cons, List.drop_succ_cons, ih.1, ih.2]
    exact ⟨rfl, rfl⟩
theorem ptrs_td (l : List P) (i : Nat) : (ptrs l).take i = ptrs (l.take i) ∧ (ptrs l).drop i = ptrs (l.drop i) := by
  unfold ptrs
  rw [List.map_take, List.map_drop]
  exact ⟨rfl, rfl⟩
theorem ptrs_append (a b : List P) : ptrs (a ++ b) = ptrs a ++ ptrs b := by simp [ptrs]
theorem ptrs_length (a : List P) : (ptrs a).length = a.length := by simp [ptrs]
theorem ptrs_ins (l : List P) (i : Nat) (x : P) : (ptrs l).take i ++ ([ptrV x.blk] ++ (ptrs l).drop i) = ptrs (insAt i x l) := by
  rw [(ptrs_td l i).1, (ptrs_td l i).2]
  unfold insAt
  have e3 : l.take i ++ x :: l.drop i = l.take i ++ ([x] ++ l.drop i) := rfl
  rw [e3, ptrs_append, ptrs_append]
  rfl
theorem ptrs_del (l : List P) (i : Nat) : (ptrs l).take (i * 1) ++ (ptrs l).drop ((i + 1) * 1) = ptrs (l.take i ++ l.drop (i + 1)) := by
  rw [Nat.mul_one, Nat.mul_one, (ptrs_td l i).1, (ptrs_td l (i + 1)).2, ptrs_append]
theorem two_apart {w : World} {r s : Res} (h : Sep w [r, s]) : ∀ k ∈ r.foot, k ∉ s.foot := fun k hk hk2 => by
  have h1 := Sep.apart (a := [r]) (b := [s]) h k (by simp [feet]; exact hk)
  exact h1 (by simp [feet]; exact hk2)
theorem ptrs_two (l r : List P) (c c' r' : P) (h : c'.blk = c.blk) : (ptrs (l ++ c :: r)).take (l.length + 1) ++ ([ptrV r'.blk] ++ (ptrs (l ++ c :: r)).drop (l.length + 1)) = ptrs (l ++ c' :: r' :: r) := by
  rw [(ptrs_td _ _).1, (ptrs_td _ _).2]
  have e1 : (l ++ c :: r).take (l.length + 1) = l ++ [c] := by
    rw [List.take_append, List.take_of_length_le (by omega)]
    have : l.length + 1 - l.length = 1 := by omega
    rw [this]; rfl
  have e2 : (l ++ c :: r).drop (l.length + 1) = r := by
    rw [List.drop_append, List.drop_eq_nil_of_le (by omega)]
    have : l.length + 1 - l.length = 1 := by omega
    rw [this]; rfl
  rw [e1, e2]
  simp [ptrs, h]
theorem Trk.swap {w0 w : World} {F : List Nat} {r r' : Res} {rest : List Res} (h : Trk w0 F w (r :: rest)) (hr : r'.holds w) (hn : r'.foot.Nodup) (hf : ∀ k ∈ r'.foot, k ∈ r.foot) : Trk w0 F w (r' :: rest) :=
  h.one hr hn (fun k hk => .inl (hf k hk)) (Only.refl _ _)
theorem enC_set : ∀ (l : List En) (i : Nat) (x : En) (h : i < l.length) (_ : x.key = (l[i]).key), enC (l.set i x) = (enC l).set (i * 2 + 1) x.val
  | [], _, _, h, _ => by simp at h
  | y :: l, 0, x, _, hk => by
    obtain ⟨xk, xv⟩ := x
    obtain ⟨yk, yv⟩ := y
    simp only [List.getElem_cons_zero] at hk
    subst hk
    rfl
  | y :: l, i + 1, x, h, hk => by
    have ih := enC_set l i x (by simpa using h) (by simpa using hk)
    have e : (i + 1) * 2 + 1 = (i * 2 + 1) + 1 + 1 := by omega
    have e2 : enC (y :: l) = .string (kb y.key) :: y.val :: enC l := rfl
    have e3 : enC ((y :: l).set (i + 1) x) = .string (kb y.key) :: y.val :: enC (l.set i x) := rfl
    rw [e, e2, e3, ih, List.set_cons_succ, List.set_cons_succ]
theorem P.blk_node (b : Nat) (av : Value) (es : List En) (bv : Value) (ks : List P) : (P.node b av es bv ks).blk = b := rfl
section
variable {pt et qt : TypeId}
/-- A page without what lies below. -/
def P.own3 (pt et qt : TypeId) (b : Nat) (av : Value) (es : List En) (bv : Value) (ks : List P) : List Res := [Res.blk b pt [av, bv], Res.own et 2 av es.length (enC es), Res.own qt 1 bv ks.length (ptrs ks)]
theorem P.res_own (b : Nat) (av : Value) (es : List En) (bv : Value) (ks : List P) : (P.node b av es bv ks).res pt et qt = P.own3 pt et qt b av es bv ks ++ P.resL pt et qt ks := P.res_node b av es bv ks
theorem P.eta (p : P) : ∃ b av es bv ks, p = P.node b av es bv ks := by cases p; exact ⟨_, _, _, _, _, rfl⟩
theorem P.resL_at (l : List P) (c : P) (r : List P) : (P.resL pt et qt (l ++ c :: r)).Perm (c.res pt et qt ++ (P.resL pt et qt l ++ P.resL pt et qt r)) := by
  rw [P.resL_append, P.resL_cons]
  exact perm_of_cnt fun a => by simp only [cnt_append]; omega
end
end Go.Afx
/- Memory: copy into a row of one's own; an own slice's row as a block. -/
namespace Go.Afx
open Go Go.RowKit

section
variable {P : Program} {t e ty : TypeId} {sz bytes : Nat} {z : Value} {w : World}

/-- A row with a piece of it written over. -/
def over (cur news : List Value) (o : Nat) : List Value := cur.take o ++ news ++ cur.drop (o + news.length)
theorem over_length {cur news : List Value} {o : Nat} (h : o + news.length ≤ cur.length) : (over cur news o).length = cur.length := by
  unfold over
  simp only [List.length_append, List.length_take, List.length_drop]
  omega
/-- copy: the first elements of what is read go over the row's, from a place on. -/
theorem run_copy_blk (he : Elem P t e sz bytes z) {g o dLen dCap : Nat} {cur : List Value} (hb : Blk w g e cur) {B : Nat → Prop} {x : Value} {m : Nat} {news : List Value} (hx : Sl w B sz x m news)
    (hfit : o + min m dLen * sz ≤ cur.length) :
    (Builtin.copy_ #[t, t] ty #[.slice (some ⟨g, o, none⟩) dLen dCap, x]).run P w = .ok (.int .i64 (min m dLen : Nat)) (w.setRow g (over cur (news.take (min m dLen * sz)) o).toArray) := by
  obtain ⟨i, hi, hz, hsize, hby⟩ := he.parts
  have ht := he.sl
  subst hsize
  obtain ⟨p, cap, rfl, hc1, hc2⟩ := hx.form
  have hlen := (hx.first (P := P)).2
  have htk := hx.take (m := min m dLen) (Nat.min_le_left _ _)
  have hf := (htk.first (P := P)).1
  have hf2 : (Builtin.firstCells i.size (min m dLen) (.slice p m cap)).run P w = .ok (news.take (min m dLen * i.size)).toArray w := by
    cases p <;> exact hf
  have hnl : (news.take (min m dLen * i.size)).length = min m dLen * i.size := by
    rw [List.length_take, hx.1]
    have : min m dLen * i.size ≤ m * i.size := Nat.mul_le_mul_right _ (Nat.min_le_left _ _)
    omega
  have hst := run_storeCells_at P g o e (news.take (min m dLen * i.size)) 0 cur.toArray w hb (by simp only [List.size_toArray, hnl]; omega) (hx.2.1.take _)
  simp only [Nat.add_zero] at hst
  have hmm : Nat.min m dLen = min m dLen := rfl
  simp only [Builtin.copy_, List.getElem?_toArray, List.getElem?_cons_zero, List.getElem?_cons_succ, Sem.run_bind, run_underlying ht, Result.andThen_ok, hlen, hmm]
  simp [sizeOf, typeInfo, hi, hf2, hst, over, goInt]

/-- copy, where of the source only what goes over is known. -/
theorem run_copy_part (he : Elem P t e sz bytes z) {g o dLen dCap : Nat} {cur : List Value} (hb : Blk w g e cur) {B : Nat → Prop} {p : Option Addr} {m cap q : Nat} {news : List Value} (hq : q = min m dLen) (hx : Sl w B sz (.slice p q cap) q news)
    (hfit : o + q * sz ≤ cur.length) :
    (Builtin.copy_ #[t, t] ty #[.slice (some ⟨g, o, none⟩) dLen dCap, .slice p m cap]).run P w = .ok (.int .i64 (q : Nat)) (w.setRow g (over cur news o).toArray) := by
  obtain ⟨i, hi, hz, hsize, hby⟩ := he.parts
  have ht := he.sl
  subst hsize
  have hlen : (Builtin.lenOf (.slice p m cap)).run P w = .ok m w := by simp [Builtin.lenOf]
  have hf := (hx.first (P := P)).1
  have hf2 : (Builtin.firstCells i.size q (.slice p m cap)).run P w = .ok news.toArray w := by
    cases p <;> exact hf
  have hst := run_storeCells_at P g o e news 0 cur.toArray w hb (by simp only [List.size_toArray, hx.1]; omega) hx.2.1
  simp only [Nat.add_zero] at hst
  have hmm : Nat.min m dLen = q := hq.symm
  simp only [Builtin.copy_, List.getElem?_toArray, List.getElem?_cons_zero, List.getElem?_cons_succ, Sem.run_bind, run_underlying ht, Result.andThen_ok, hlen, hmm]
  simp [sizeOf, typeInfo, hi, hf2, hst, over, goInt]

section steps
variable {ops : Array Oper} {rest : List Oper} {o : Oper} {a : Act} {Q : Exit → Act → World → Prop}
theorem wpList_copy (hgd : o.guard = none) (d x : Operand) (ho : o.op = .call { callee := .builtin .copy, args := #[d, x], argTypes := #[t, t] })
    (he : Elem P t e sz bytes z) {g off dLen dCap : Nat} {cur : List Value} (hd : a.eval d = .slice (some ⟨g, off, none⟩) dLen dCap) (hb : Blk w g e cur) {B : Nat → Prop} {p : Option Addr} {m cap q : Nat} {news : List Value}
    (hxv : a.eval x = .slice p m cap) (hq : q = min m dLen) (hx : Sl w B sz (.slice p q cap) q news) (hfit : off + q * sz ≤ cur.length)
    (h : wpList P ops Q rest (a.put o.dst (.int .i64 (q : Nat))) (w.setRow g (over cur news off).toArray)) : wpList P ops Q (o :: rest) a w := by
  have hr := run_copy_part (P := P) (ty := o.type) he (dCap := dCap) hb hq hx hfit
  refine wpList_plain hgd fun K hK => ?_
  unfold Oper.wp execOp
  simp only [ho, resolve, invoke, builtin, Sem.run_bind, Sem.run_pure, Result.andThen_ok, List.map_toArray, List.map_cons, List.map_nil, hd, hxv, hr]
  exact hK _ _ h
theorem wpList_app_grow (hgd : o.guard = none) (s x : Operand) (ho : o.op = .call { callee := .builtin .append, args := #[s, x], argTypes := #[t, t] })
    {v : Value} (hs : a.eval s = v) {xv : Value} (hx : a.eval x = xv) {v' : Value} {w' : World}
    (hr : (Builtin.append_ #[t, t] o.type #[v, xv]).run P w = .ok v' w')
    (h : wpList P ops Q rest (a.put o.dst v') w') : wpList P ops Q (o :: rest) a w := by
  refine wpList_plain hgd fun K hK => ?_
  unfold Oper.wp execOp
  simp only [ho, resolve, invoke, builtin, Sem.run_bind, Sem.run_pure, Result.andThen_ok, List.map_toArray, List.map_cons, List.map_nil, hs, hx, hr]
  exact hK _ _ h
end steps

/-- append beyond the room: a new row, what was there stays. -/
theorem run_app_grow (he : Elem P t e sz bytes z) {g off n cap : Nat} {cs : List Value} (hown : Own w e sz (.slice (some ⟨g, off, none⟩) n cap) n cs) {B : Nat → Prop} {x : Value} {m : Nat} {news : List Value} (hx : Sl w B sz x m news)
    (hgr : cap < n + m) (h63 : n + m ≤ maxLen) (hb : (n + m) * bytes ≤ 140737488355328) :
    ∃ c w', (Builtin.append_ #[t, t] ty #[.slice (some ⟨g, off, none⟩) n cap, x]).run P w = .ok (.slice (some ⟨w.heap.size, 0, none⟩) (n + m) c) w' ∧ Own w' e sz (.slice (some ⟨w.heap.size, 0, none⟩) (n + m) c) (n + m) (cs ++ news) ∧
      Below w.heap.size w w' ∧ w'.heap.size = w.heap.size + 1 := by
  obtain ⟨i, hi, hz, hsize, hby⟩ := he.parts
  have ht := he.sl
  have hzs := he.zs
  subst hsize
  subst hby
  have hlen : (cs ++ news).length = (n + m) * i.size := by rw [List.length_append, hown.1, hx.1, Nat.add_mul]
  have hones : Ones (cs ++ news) := hown.2.1.append hx.2.1
  have hncap : n ≤ cap := by
    rcases hown.2.2 with ⟨h0, _⟩ | ⟨g2, off2, cap2, cur, hv, hbk, hnc, _⟩
    · cases h0
    · cases hv; exact hnc
  rcases hx.2.2 with ⟨p, cap', rfl, rfl, _, _⟩ | ⟨g', off', cap', rfl, _, _, _, _, hcell⟩
  · omega
  · have holds : ∀ j u, cs[j]? = some u → w.cell? ((⟨g, off, none⟩ : Addr).add j) = some u := by
      have hs := hown.sl (B := fun _ => True) (fun _ _ => trivial)
      rcases hs.2.2 with ⟨_, _, _, h0, _⟩ | ⟨g2, off2, cap2, hv, _, _, _, _, h5⟩
      · have : cs = [] := List.eq_nil_of_length_eq_zero (by rw [hown.1, h0, Nat.zero_mul])
        intro j u hu
        simp [this] at hu
      · cases hv
        exact news_of_sl h5
    have hr := run_append_grow (P := P) w t ty e i z ht hi hz ⟨g, off, none⟩ n cap cs hown.1 holds ⟨g', off', none⟩ m cap' news hx.1 (news_of_sl hcell) (by omega) (by simp only [maxLen] at h63; omega) (growslice_fits (by omega) hb)
    have hge := grownCap_ge w (n + m) cap e
    have hcm : grownCap w (n + m) cap e ≤ maxLen := grownCap_le_maxLen w (n + m) cap e h63
    have hsz2 : (cs ++ news ++ (Builtin.zeroCells z.cells (grownCap w (n + m) cap e - (n + m))).toList).length = grownCap w (n + m) cap e * i.size := by
      rw [List.length_append, hlen, Array.length_toList, size_zeroCells, hzs, ← Nat.add_mul]
      congr 1
      omega
    have h1 := Own.made w.drew e i.size (cs ++ news) (Builtin.zeroCells z.cells (grownCap w (n + m) cap e - (n + m))).toList (n + m) (grownCap w (n + m) cap e) hlen hones hge hcm (by omega)
    have e1 : (cs ++ news ++ (Builtin.zeroCells z.cells (grownCap w (n + m) cap e - (n + m))).toList).toArray = cs.toArray ++ news.toArray ++ Builtin.zeroCells z.cells (grownCap w (n + m) cap e - (n + m)) := by simp
    rw [e1] at h1
    exact ⟨_, _, hr, h1, ((Below.refl _ _).drew).alloc (Nat.le_refl _) _, by simp⟩
/-- A slice cut at the front. -/
theorem Sl.from {B : Nat → Prop} {g off n cap : Nat} {cs : List Value} (h : Sl w B sz (.slice (some ⟨g, off, none⟩) n cap) n cs) {k : Nat} (hk : k ≤ n) :
    Sl w B sz (.slice (some ⟨g, off + k * sz, none⟩) (n - k) (cap - k)) (n - k) (cs.drop (k * sz)) := by
  have hl : (cs.drop (k * sz)).length = (n - k) * sz := by rw [List.length_drop, h.1, Nat.sub_mul]
  refine ⟨hl, fun u hu => h.2.1 u (List.mem_of_mem_drop hu), ?_⟩
  rcases h.2.2 with ⟨p, c, hv, hn, hc, _⟩ | ⟨g', off', cap', hv, a1, a2, a3, a4, a5⟩
  · cases hv
    refine .inl ⟨some ⟨g, off + k * sz, none⟩, cap - k, ?_, by omega, by omega, fun h => by cases h⟩
    have : 0 - k = 0 := by omega
    rw [this]
  · cases hv
    refine .inr ⟨g, off + k * sz, cap - k, rfl, by omega, by omega, a3, a4, fun j hj => ?_⟩
    rw [hl] at hj
    have e1 : off + k * sz + j = off + (k * sz + j) := by omega
    rw [e1, a5 (k * sz + j) (by rw [h.1]; have : k * sz + (n - k) * sz = n * sz := by rw [← Nat.add_mul]; congr 1; omega
                                omega), List.getElem?_drop]
/-- What stands behind a place moves up, something new goes between. -/
theorem over_ins (pre c1 c2 s1 s2 vs : List Value) (h : s1.length = vs.length) :
    over (over (pre ++ (c1 ++ (c2 ++ (s1 ++ s2)))) c2 (pre.length + c1.length + vs.length)) vs (pre.length + c1.length) = pre ++ (c1 ++ (vs ++ (c2 ++ s2))) := by
  have e1 : pre ++ (c1 ++ (c2 ++ (s1 ++ s2))) = (pre ++ c1) ++ (c2 ++ (s1 ++ s2)) := by simp
  have hl : (pre ++ c1).length = pre.length + c1.length := by simp
  have hx : ((pre ++ c1) ++ (c2 ++ (s1 ++ s2))).take (pre.length + c1.length + vs.length) = (pre ++ c1) ++ (c2 ++ (s1 ++ s2)).take vs.length := by
    rw [← hl, List.take_append, List.take_of_length_le (by omega)]
    congr 2
    omega
  have hd : ((pre ++ c1) ++ (c2 ++ (s1 ++ s2))).drop (pre.length + c1.length + vs.length + c2.length) = s2 := by
    have e2 : (pre ++ c1) ++ (c2 ++ (s1 ++ s2)) = (pre ++ c1 ++ c2 ++ s1) ++ s2 := by simp
    rw [e2]
    have e3 : pre.length + c1.length + vs.length + c2.length = (pre ++ c1 ++ c2 ++ s1).length := by simp; omega
    rw [e3, List.drop_left]
  have hin : over (pre ++ (c1 ++ (c2 ++ (s1 ++ s2)))) c2 (pre.length + c1.length + vs.length) = ((pre ++ c1) ++ (c2 ++ (s1 ++ s2)).take vs.length) ++ (c2 ++ s2) := by
    unfold over
    rw [e1, hx, hd]
    simp
  rw [hin]
  unfold over
  have hk : ((c2 ++ (s1 ++ s2)).take vs.length).length = vs.length := by
    rw [List.length_take]; simp; omega
  have ht : (((pre ++ c1) ++ (c2 ++ (s1 ++ s2)).take vs.length) ++ (c2 ++ s2)).take (pre.length + c1.length) = pre ++ c1 := by
    rw [List.append_assoc, ← hl, List.take_left]
  have hdd : (((pre ++ c1) ++ (c2 ++ (s1 ++ s2)).take vs.length) ++ (c2 ++ s2)).drop (pre.length + c1.length + vs.length) = c2 ++ s2 := by
    have e3 : pre.length + c1.length + vs.length = ((pre ++ c1) ++ (c2 ++ (s1 ++ s2)).take vs.length).length := by rw [List.length_append, hk, hl]
    rw [e3, List.drop_left]
  rw [ht, hdd]
  simp
/-- An own row parted: ahead of the slice, its elements, the spare room. -/
theorem row_parts {cur cs : List Value} {off N : Nat} (h : (cur.drop off).take N = cs) (hN : cs.length = N) (ho : off + N ≤ cur.length) : cur = cur.take off ++ (cs ++ cur.drop (off + N)) := by
  subst hN
  have h1 : cur.drop off = cs ++ cur.drop (off + cs.length) := by
    rw [← List.drop_drop]
    conv => lhs; rw [← List.take_append_drop cs.length (cur.drop off), h]
  rw [← h1, List.take_append_drop]
/-- What slices.Insert leaves where there is room. -/
theorem Own.inserted {g off n cap : Nat} {cs cur : List Value} (hown : Own w e sz (.slice (some ⟨g, off, none⟩) n cap) n cs) (hb : Blk w g e cur) (hc : off + cap * sz ≤ cur.length) (ht : (cur.drop off).take (n * sz) = cs)
    {i m : Nat} (hi : i ≤ n) {vs : List Value} (hv : vs.length = m * sz) (hvo : Ones vs) (hroom : n + m ≤ cap) (hcm : cap ≤ maxLen) :
    Own ((w.setRow g (over cur (cs.drop (i * sz)) (off + (i + m) * sz)).toArray).setRow g (over (over cur (cs.drop (i * sz)) (off + (i + m) * sz)) vs (off + i * sz)).toArray) e sz (.slice (some ⟨g, off, none⟩) (n + m) cap) (n + m)
      (cs.take (i * sz) ++ (vs ++ cs.drop (i * sz))) := by
  have hnl : cs.length = n * sz := hown.1
  have h3 : (n + m) * sz ≤ cap * sz := Nat.mul_le_mul_right _ hroom
  rw [Nat.add_mul] at h3
  have hin : i * sz ≤ n * sz := Nat.mul_le_mul_right _ hi
  have hcur := row_parts ht hnl (by omega)
  have hc1 : (cs.take (i * sz)).length = i * sz := by rw [List.length_take]; omega
  have hpre : (cur.take off).length = off := by rw [List.length_take]; omega
  have hs1 : ((cur.drop (off + n * sz)).take (m * sz)).length = vs.length := by rw [List.length_take, List.length_drop, hv]; omega
  have hsplit : cur = cur.take off ++ (cs.take (i * sz) ++ (cs.drop (i * sz) ++ ((cur.drop (off + n * sz)).take (m * sz) ++ (cur.drop (off + n * sz)).drop (m * sz)))) := by
    conv => lhs; rw [hcur]
    rw [List.take_append_drop, ← List.append_assoc (cs.take (i * sz)), List.take_append_drop]
  have hov := over_ins (cur.take off) (cs.take (i * sz)) (cs.drop (i * sz)) ((cur.drop (off + n * sz)).take (m * sz)) ((cur.drop (off + n * sz)).drop (m * sz)) vs hs1
  rw [← hsplit, hpre, hc1, hv] at hov
  have e1 : off + (i + m) * sz = off + i * sz + m * sz := by rw [Nat.add_mul]; omega
  rw [e1, hov]
  have hres : (cs.take (i * sz) ++ (vs ++ cs.drop (i * sz))).length = (n + m) * sz := by
    rw [List.length_append, List.length_append, hc1, hv, List.length_drop, hnl, Nat.add_mul]; omega
  refine ⟨hres, ?_, .inr ⟨g, off, cap, _, rfl, (hb.setRow _).setRow _, hroom, hcm, ?_, ?_⟩⟩
  · intro u hu
    rcases List.mem_append.1 hu with hu | hu
    · exact hown.2.1 u (List.mem_of_mem_take hu)
    · rcases List.mem_append.1 hu with hu | hu
      · exact hvo u hu
      · exact hown.2.1 u (List.mem_of_mem_drop hu)
  · simp only [List.length_append, hpre, hc1, hv, List.length_drop, hnl]
    omega
  · have e4 : (cur.take off ++ (cs.take (i * sz) ++ (vs ++ (cs.drop (i * sz) ++ (cur.drop (off + n * sz)).drop (m * sz))))).drop off = cs.take (i * sz) ++ (vs ++ (cs.drop (i * sz) ++ (cur.drop (off + n * sz)).drop (m * sz))) := by
      conv => lhs; rw [← hpre]
      rw [hpre]
      have := List.drop_left (l₁ := cur.take off) (l₂ := cs.take (i * sz) ++ (vs ++ (cs.drop (i * sz) ++ (cur.drop (off + n * sz)).drop (m * sz))))
      rwa [hpre] at this
    rw [e4]
    have e5 : cs.take (i * sz) ++ (vs ++ (cs.drop (i * sz) ++ (cur.drop (off + n * sz)).drop (m * sz))) = (cs.take (i * sz) ++ (vs ++ cs.drop (i * sz))) ++ (cur.drop (off + n * sz)).drop (m * sz) := by simp
    rw [e5, ← hres, List.take_left]
theorem over_mid (pre cs suf news : List Value) (pos : Nat) (h : pos + news.length ≤ cs.length) : over (pre ++ (cs ++ suf)) news (pre.length + pos) = pre ++ (over cs news pos ++ suf) := by
  unfold over
  have h1 : (pre ++ (cs ++ suf)).take (pre.length + pos) = pre ++ cs.take pos := by
    rw [List.take_append, List.take_of_length_le (by omega)]
    have : pre.length + pos - pre.length = pos := by omega
    rw [this, List.take_append_of_le_length (by omega)]
  have h2 : (pre ++ (cs ++ suf)).drop (pre.length + pos + news.length) = cs.drop (pos + news.length) ++ suf := by
    rw [List.drop_append, List.drop_eq_nil_of_le (by omega), List.nil_append]
    have : pre.length + pos + news.length - pre.length = pos + news.length := by omega
    rw [this, List.drop_append_of_le_length (by omega)]
  rw [h1, h2]
  simp
/-- A piece of an own slice written over. -/
theorem Own.over {g off n cap : Nat} {cs cur : List Value} (hown : Own w e sz (.slice (some ⟨g, off, none⟩) n cap) n cs) (hb : Blk w g e cur) (hc : off + cap * sz ≤ cur.length) (ht : (cur.drop off).take (n * sz) = cs) (hnc : n ≤ cap) (hcm : cap ≤ maxLen)
    {news : List Value} {pos : Nat} (hp : pos + news.length ≤ n * sz) (hno : Ones news) :
    Own (w.setRow g (Afx.over cur news (off + pos)).toArray) e sz (.slice (some ⟨g, off, none⟩) n cap) n (Afx.over cs news pos) ∧ ((Afx.over cur news (off + pos)).drop off).take (n * sz) = Afx.over cs news pos ∧ (Afx.over cur news (off + pos)).length = cur.length := by
  have hnl : cs.length = n * sz := hown.1
  have h3 : n * sz ≤ cap * sz := Nat.mul_le_mul_right _ hnc
  have hcur := row_parts ht hnl (by omega)
  have hpre : (cur.take off).length = off := by rw [List.length_take]; omega
  have hol : (Afx.over cs news pos).length = n * sz := by rw [over_length (by omega), hnl]
  have hov := over_mid (cur.take off) cs (cur.drop (off + n * sz)) news pos (by omega)
  rw [← hcur, hpre] at hov
  have htk : ((Afx.over cur news (off + pos)).drop off).take (n * sz) = Afx.over cs news pos := by
    rw [hov]
    have := List.drop_left (l₁ := cur.take off) (l₂ := Afx.over cs news pos ++ cur.drop (off + n * sz))
    rw [hpre] at this
    rw [this, ← hol, List.take_left]
  have hll := over_length (cur := cur) (news := news) (o := off + pos) (by omega)
  refine ⟨⟨hol, ?_, .inr ⟨g, off, cap, _, rfl, hb.setRow _, hnc, hcm, by rw [hll]; exact hc, htk⟩⟩, htk, hll⟩
  intro u hu
  unfold Afx.over at hu
  rcases List.mem_append.1 hu with hu | hu
  · rcases List.mem_append.1 hu with hu | hu
    · exact hown.2.1 u (List.mem_of_mem_take hu)
    · exact hno u hu
  · exact hown.2.1 u (List.mem_of_mem_drop hu)
theorem over_two (c1 zs vs c2 : List Value) (h : zs.length = vs.length + c2.length) : over (over (c1 ++ zs) vs c1.length) c2 (c1.length + vs.length) = c1 ++ (vs ++ c2) := by
  have h1 : over (c1 ++ zs) vs c1.length = c1 ++ (vs ++ zs.drop vs.length) := by
    unfold over
    rw [List.take_left, List.drop_append, List.drop_eq_nil_of_le (by omega)]
    have : c1.length + vs.length - c1.length = vs.length := by omega
    rw [this]; simp
  rw [h1]
  unfold over
  have e1 : c1 ++ (vs ++ zs.drop vs.length) = (c1 ++ vs) ++ zs.drop vs.length := by simp
  have e2 : c1.length + vs.length = (c1 ++ vs).length := by simp
  rw [e1, e2, List.take_left, List.drop_eq_nil_of_le (by simp; omega)]
  simp
end
end Go.Afx
/- Slices of tree.entry[int]: Clone, Delete. -/
namespace Go.Proofs.Ytfnndifckgjmjaa
open Go.RowKit Go.Afx

@[go_sem] theorem eqlNilEi (w : World) (a : Option Addr) (n c : Nat) : (binOp .eql 61 (.slice a n c) (.slice none 0 0)).run Try.prog w = .ok (.bool a.isNone) w := Lib.run_eql_slice_nil w _ _ a n c 0 0 Try.underlying61
theorem elemEi : Elem Try.prog 61 87 2 24 (.agg #[.string ⟨#[]⟩, .int .i64 0]) :=
  ⟨Try.underlying61, by kernel_rfl, rfl, by omega, by intro u hu; simp [Value.cells] at hu; rcases hu with rfl | rfl <;> rfl⟩
set_option maxRecDepth 100000 in
set_option maxHeartbeats 400000 in
theorem clone_Ei (w : World) (B : Nat → Prop) (v : Value) (n : Nat) (cs : List Value) (h : Sl w B 2 v n cs) (hn : n ≤ 1000000000) :
    Calls Try.prog 48 #[v] w fun e w' => ∃ v', e = .returned v' ∧ Own w' 87 2 v' n cs ∧ Below w.heap.size w w' ∧ (∀ k, v'.ownBlock = some k → w.heap.size ≤ k) := by
  obtain ⟨p, cap, rfl, _, _⟩ := h.form
  cases p with
  | none =>
    have hn0 : n = 0 := by
      rcases h.2.2 with ⟨_, _, _, h0, _⟩ | ⟨_, _, _, h0, _⟩
      · exact h0
      · cases h0
    subst hn0
    have hc : cs = [] := List.eq_nil_of_length_eq_zero (by simpa using h.1)
    subst hc
    go_enter Try.func48, Try.ntmps48
    go_wp2
    go_ret
    exact ⟨_, rfl, Own.nil _ _ _, Below.refl _ _, by simp [Value.ownBlock]⟩
  | some a =>
    have hs := h.alloc (.cells #[] 87)
    have ho : Own (w.alloc (.cells #[] 87)) 87 2 (.slice (some ⟨w.heap.size, 0, none⟩) 0 0) 0 [] := Own.made w 87 2 [] [] 0 0 rfl Ones.nil (Nat.le_refl _) (by simp [maxLen]) (by simp)
    clear h
    go_enter Try.func48, Try.ntmps48
    go_wp2_with (at_builtin; refine wpList_app rfl _ _ rfl elemEi (by rfl) ho (by rfl) hs (by unfold maxLen; omega) (by omega) ?_; intro v' w' h1 h2 h3 _ _)
    go_ret
    have hb : Below w.heap.size w w' := (((Below.refl w.heap.size w).alloc (Nat.le_refl _) _).trans (h2.below (B := w.heap.size) (by simp) (fun i hi => by have : w.heap.size = i := (by simpa [Value.ownBlock] using hi); omega)))
    refine ⟨v', rfl, by simpa using h1, hb, fun k hk => ?_⟩
    rw [hk] at h3
    have h7 : k = w.heap.size ∨ k = w.heap.size + 1 := by simpa [Value.ownBlock] using h3
    omega

set_option maxRecDepth 100000 in
set_option maxHeartbeats 1000000 in
theorem delete_Ei (w : World) (g off cap n i : Nat) (cs : List Value) (h : Own w 87 2 (.slice (some ⟨g, off, none⟩) n cap) n cs) (hn : n ≤ 1000000000) (hi : i < n) :
    Calls Try.prog 74 #[.slice (some ⟨g, off, none⟩) n cap, .int .i64 i, .int .i64 ((i : Int) + 1)] w fun e w' =>
      e = .returned (.slice (some ⟨g, off, none⟩) (n - 1) cap) ∧ Own w' 87 2 (.slice (some ⟨g, off, none⟩) (n - 1) cap) (n - 1) (cs.take (i * 2) ++ cs.drop ((i + 1) * 2)) ∧ Only (fun k => k = g) w w' ∧ w'.heap.size = w.heap.size := by
  have hnc : n ≤ cap := by
    rcases h.2.2 with ⟨h0, _⟩ | ⟨g', off', cap', cur, hv, _, h1, _⟩
    · cases h0
    · cases hv; exact h1
  have hcm : cap ≤ maxLen := by
    rcases h.2.2 with ⟨h0, _⟩ | ⟨g', off', cap', cur, hv, _, _, h1, _⟩
    · cases h0
    · cases hv; exact h1
  unfold maxLen at hcm
  obtain ⟨j, hj⟩ : ∃ j, j = i + 1 := ⟨_, rfl⟩
  have hji : (i : Int) + 1 = (j : Int) := by omega
  have hres : n - 1 = i + (n - j) := by omega
  have hjn : j ≤ n := by omega
  have hil : i < j := by omega
  rw [hji, hres, ← hj]
  have ho := (h.take (m := i) (by omega)).drew
  have hsl := (h.sl (B := fun _ => True) (fun _ _ => trivial))
  have hij : ((i : Int) == (j : Int)) = false := by rw [beq_eq_false_iff_ne]; omega
  have hic : i ≤ cap := by omega
  have hlen := h.1
  clear hji hj hres
  by_cases hcj : cap = j
  · have hnj : n = j := by omega
    subst hcj
    subst hnj
    have hs : Sl w.drew (fun _ => True) 2 (.slice (some ⟨g, off, none⟩) 0 0) 0 (cs.drop (n * 2)) := by
      refine ⟨by rw [List.length_drop]; omega, h.2.1.drop _, .inr ?_⟩
      obtain ⟨g', off', cap', hv, h1, h2, h3, h4, h5⟩ := hsl.place (by omega)
      cases hv
      exact ⟨g, off, 0, rfl, by omega, by omega, trivial, h4, fun q hq => by rw [List.length_drop] at hq; omega⟩
    have HL := Lib.hid hlen
    clear h hsl hlen
    go_enter Try.func74, Try.ntmps74
    go_wp2
    refine wp_region_lit_plan [] [(0, 0), (1, 0), (2, 0), (3, 0), (4, 0), (5, 0), (6, 4), (7, 0)] (fun _ => False) (by kernel_rfl) (by kernel_rfl) (fun c a d v w h => by cases d <;> exact h) ?_
    go_wp2_with (first
      | (refine plan_pure (v := _) (by rfl) (by rfl) (by rfl) (by intro _; go_simp; with_reducible rfl) ?_; simp only [List.setIfInBounds_toArray, List.set_cons_zero, List.set_cons_succ]; try go_bits) | (refine plan_read (v := _) (by rfl) (by rfl) (by rfl) (by go_simp; with_reducible rfl) ?_; simp only [List.setIfInBounds_toArray, List.set_cons_zero, List.set_cons_succ]; try go_bits) | (refine plan_readB (v := _) (by rfl) (by rfl) (by rfl) (by intro _ hag; unfold Agree at hag; go_simp; with_reducible rfl) ?_; simp only [List.setIfInBounds_toArray, List.set_cons_zero, List.set_cons_succ]; try go_bits) | (refine plan_skip0 (by rfl) (by rfl) (by rfl) ?_; simp only [List.setIfInBounds_toArray, List.set_cons_zero, List.set_cons_succ]; try go_bits) | (refine plan_skip1 (by rfl) (by rfl) (by rfl) ?_; simp only [List.setIfInBounds_toArray, List.set_cons_zero, List.set_cons_succ]; try go_bits) | (refine plan_skip2 (by rfl) (by rfl) (by rfl) ?_; simp only [List.setIfInBounds_toArray, List.set_cons_zero, List.set_cons_succ]; try go_bits) | (refine plan_skip4 (by rfl) (by rfl) (by rfl) ?_; simp only [List.setIfInBounds_toArray, List.set_cons_zero, List.set_cons_succ]; try go_bits) | (refine plan_any (by rfl) ?_) | (refine plan_keep (by rfl) ?_) | (refine plan_nil ?_) | (with_reducible refine And.intro (by first | assumption | exact Agree.refl _ _ | exact agree_drew _ _ | exact agree_alloc _ (by intro k hk; subst hk; first | omega | (simp; omega))) ?_) | (unfold Act.put; simp only [List.setIfInBounds_toArray, List.set_cons_zero, List.set_cons_succ])
      | (at_builtin; refine wpList_app_room rfl _ _ rfl elemEi (by rfl) ho (by rfl) hs (by omega) ?_; intro w1 h1 h2 h3)
      | (refine wpList_clear_spare rfl _ rfl elemEi h1 (by rfl) (by omega) (by omega) ?_; intro w2 h4 h5 h6))
    go_ret
    refine ⟨by simp, by rw [Nat.sub_self]; exact h4, ?_, by rw [h6, h3]; rfl⟩
    exact ((Only.refl (fun k => k = g) w).drew.trans h2 (fun _ _ h => h)).trans h5 (fun _ _ h => h)
  · have hs : Sl w.drew (fun _ => True) 2 (.slice (some ⟨g, off + j * 2, none⟩) (n - j) (cap - j)) (n - j) (cs.drop (j * 2)) := by
      have e : off + j * 2 = off + j * 2 := by omega
      have h1 := (Sl.from hsl hjn).drew
      rw [e] at h1
      exact h1
    have HL := Lib.hid hlen
    clear h hsl hlen
    go_enter Try.func74, Try.ntmps74
    go_wp2
    refine wp_region_lit_plan [] [(0, 0), (1, 0), (2, 0), (3, 0), (4, 0), (5, 0), (6, 4), (7, 0)] (fun _ => False) (by kernel_rfl) (by kernel_rfl) (fun c a d v w h => by cases d <;> exact h) ?_
    go_wp2_with (first
      | (refine plan_pure (v := _) (by rfl) (by rfl) (by rfl) (by intro _; go_simp; with_reducible rfl) ?_; simp only [List.setIfInBounds_toArray, List.set_cons_zero, List.set_cons_succ]; try go_bits) | (refine plan_read (v := _) (by rfl) (by rfl) (by rfl) (by go_simp; with_reducible rfl) ?_; simp only [List.setIfInBounds_toArray, List.set_cons_zero, List.set_cons_succ]; try go_bits) | (refine plan_readB (v := _) (by rfl) (by rfl) (by rfl) (by intro _ hag; unfold Agree at hag; go_simp; with_reducible rfl) ?_; simp only [List.setIfInBounds_toArray, List.set_cons_zero, List.set_cons_succ]; try go_bits) | (refine plan_skip0 (by rfl) (by rfl) (by rfl) ?_; simp only [List.setIfInBounds_toArray, List.set_cons_zero, List.set_cons_succ]; try go_bits) | (refine plan_skip1 (by rfl) (by rfl) (by rfl) ?_; simp only [List.setIfInBounds_toArray, List.set_cons_zero, List.set_cons_succ]; try go_bits) | (refine plan_skip2 (by rfl) (by rfl) (by rfl) ?_; simp only [List.setIfInBounds_toArray, List.set_cons_zero, List.set_cons_succ]; try go_bits) | (refine plan_skip4 (by rfl) (by rfl) (by rfl) ?_; simp only [List.setIfInBounds_toArray, List.set_cons_zero, List.set_cons_succ]; try go_bits) | (refine plan_any (by rfl) ?_) | (refine plan_keep (by rfl) ?_) | (refine plan_nil ?_) | (with_reducible refine And.intro (by first | assumption | exact Agree.refl _ _ | exact agree_drew _ _ | exact agree_alloc _ (by intro k hk; subst hk; first | omega | (simp; omega))) ?_) | (unfold Act.put; simp only [List.setIfInBounds_toArray, List.set_cons_zero, List.set_cons_succ])
      | (at_builtin; refine wpList_app_room rfl _ _ rfl elemEi (by rfl) ho (by rfl) hs (by omega) ?_; intro w1 h1 h2 h3)
      | (refine wpList_clear_spare rfl _ rfl elemEi h1 (by rfl) (by omega) (by omega) ?_; intro w2 h4 h5 h6))
    go_ret
    refine ⟨rfl, h4, ?_, by rw [h6, h3]; rfl⟩
    exact ((Only.refl (fun k => k = g) w).drew.trans h2 (fun _ _ h => h)).trans h5 (fun _ _ h => h)
end Go.Proofs.Ytfnndifckgjmjaa
/- A key's place among a page's entries: find. -/
namespace Go.Proofs.Ytfnndifckgjmjaa
open Go.RowKit Go.Afx

set_option maxRecDepth 100000 in
set_option maxHeartbeats 1000000 in
theorem cmp_i (w : World) (a k : Key) (v : Value) :
    Calls Try.prog 65 #[.agg #[.string (kb a), v], .string (kb k)] w fun e w' => e = .returned (.int .i64 (cmpK a k)) ∧ Below w.heap.size w w' := by
  have h1 : cmpK a k = if Op.bytesLess a k then -1 else if Op.bytesLess k a then 1 else 0 := rfl
  have hl : Op.bytesLess (kb a).toList (kb k).toList = Op.bytesLess a k := by rw [kb_toList, kb_toList]
  have hg : ((kb a).toList == (kb k).toList) = (!Op.bytesLess a k && !Op.bytesLess k a) := by rw [kb_toList, kb_toList]; exact keq_lt a k
  rw [h1]
  clear h1
  generalize Op.bytesLess a k = x at *
  generalize Op.bytesLess k a = y at *
  cases x
  · cases y
    · have hg2 : ((kb a).toList == (kb k).toList) = true := hg
      clear hg
      go_enter Try.func65, Try.ntmps65
      go_wp2
      go_ret
      exact ⟨rfl, (Below.refl _ _).alloc (Nat.le_refl _) _⟩
    · have hg2 : ((kb a).toList == (kb k).toList) = false := hg
      clear hg
      go_enter Try.func65, Try.ntmps65
      go_wp2
      go_ret
      exact ⟨rfl, (Below.refl _ _).alloc (Nat.le_refl _) _⟩
  · go_enter Try.func65, Try.ntmps65
    go_wp2
    go_ret
    exact ⟨rfl, (Below.refl _ _).alloc (Nat.le_refl _) _⟩

set_option maxRecDepth 100000 in
set_option maxHeartbeats 2000000 in
theorem search_i (w : World) (B : Nat → Prop) (v : Value) (l : List En) (k : Key) (h : Sl w B 2 v l.length (enC l)) (hr : Rise l) (hn : l.length ≤ 1000000000) :
    Calls Try.prog 64 #[v, .string (kb k), .func (.func 65) #[] #[]] w fun e w' => e = .returned (.tuple #[.int .i64 (pos k l : Nat), .bool (has k l)]) ∧ Below w.heap.size w w' := by
  obtain ⟨p, cap, rfl, hc1, hc2⟩ := h.form
  have HS := Lib.hid h
  have HPL := Lib.hid (pos_le k l)
  have HLS : Hid (∀ (h : Nat) (hh : h < l.length), Op.bytesLess (l[h]).key k = decide (h < pos k l)) := fun h hh => pos_lt hr hh
  have HH1 : Hid (∀ h : pos k l < l.length, has k l = ((l[pos k l]).key == k)) := fun h => by unfold has; rw [List.getElem?_eq_getElem h]
  have HH2 : Hid (¬ pos k l < l.length → has k l = false) := fun h => by unfold has; rw [List.getElem?_eq_none (by omega)]
  generalize pos k l = q at *
  generalize has k l = hs at *
  clear h hr
  go_enter Try.func64, Try.ntmps64
  go_wp2
  go_loopw [9, 10, 11] (fun i j h wr => ∃ a b : Nat, i = .int .i64 a ∧ j = .int .i64 b ∧ a ≤ q ∧ q ≤ b ∧ b ≤ l.length ∧ Below w.heap.size w wr) (fun i j _ _ => (intOf j).toNat - (intOf i).toNat)
  case atStart => exact ⟨0, l.length, rfl, rfl, Nat.zero_le _, HPL.out, Nat.le_refl _, Below.refl _ _⟩
  case round =>
    obtain ⟨a, b, rfl, rfl, h1, h2, h3, hb⟩ := hrel
    have HB := Lib.hid hb
    by_cases hab : a < b
    · obtain ⟨h, hh⟩ : ∃ h : Nat, h = (a + b) / 2 := ⟨_, rfl⟩
      have hhi : ((a : Int) + (b : Int)) / 2 = (h : Int) := by omega
      have hah : a ≤ h := by omega
      have hhb : h < b := by omega
      have hhl : h < l.length := by omega
      obtain ⟨g, off, cap', hv, hg, e0, e1⟩ := sl_en (HS.out.below hb) hhl
      cases hv
      have HLT := Lib.hid (HLS.out h hhl)
      have HC := Lib.hid (fun W => cmp_i W l[h].key k l[h].val)
      have HN := Lib.hid (cmpK_neg l[h].key k)
      clear hb hh
      generalize l[h].key = ke at *
      generalize l[h].val = ve at *
      generalize cmpK ke k = c at *
      cases hc : Op.bytesLess ke k
      · have hpos : ¬ h < q := of_decide_eq_false (HLT.out.symm.trans hc)
        have hcn : (decide (c < 0)) = false := HN.out.trans hc
        have hcn2 : ¬ c < 0 := of_decide_eq_false hcn
        clear hc
        go_wp2_with (go_at_call 65; refine (HC.out _).mono ?_; rintro e w2 ⟨rfl, hb2⟩)
        go_roundw
        case rel => exact ⟨a, h, rfl, rfl, h1, by omega, by omega, HB.out.trans (hb2.mono HB.out.size)⟩
        case measure => (simp [intOf]) <;> omega
      · have hpos : h < q := of_decide_eq_true (HLT.out.symm.trans hc)
        have hcn : (decide (c < 0)) = true := HN.out.trans hc
        have hcn2 : c < 0 := of_decide_eq_true hcn
        clear hc
        go_wp2_with (go_at_call 65; refine (HC.out _).mono ?_; rintro e w2 ⟨rfl, hb2⟩)
        go_roundw
        case rel => exact ⟨h + 1, b, by go_num, rfl, by omega, h2, h3, HB.out.trans (hb2.mono HB.out.size)⟩
        case measure => (simp [intOf]) <;> omega
    · obtain rfl : a = q := by omega
      obtain rfl : b = a := by omega
      by_cases hpl : b < l.length
      · obtain ⟨g, off, cap', hv, hg, e0, e1⟩ := sl_en (HS.out.below hb) hpl
        cases hv
        have HC := Lib.hid (fun W => cmp_i W (l[b]).key k (l[b]).val)
        have hcz : (cmpK (l[b]).key k == 0) = hs := (cmpK_zero _ _).trans (HH1.out hpl).symm
        clear hb HLS HH1 HH2
        generalize (l[b]).key = ke at *
        generalize (l[b]).val = ve at *
        generalize cmpK ke k = c at *
        go_wp2_with (go_at_call 65; refine (HC.out _).mono ?_; rintro e w2 ⟨rfl, hb2⟩)
        exact bodyPost_ret (v := .tuple #[.int .i64 (b : Nat), .bool hs]) (by simp [results, Try.results64, go_sem]) rfl ⟨rfl, HB.out.trans (hb2.mono HB.out.size)⟩
      · have hh := HH2.out hpl
        subst hh
        have hpe : b = l.length := by omega
        have hnl : ¬ (b : Int) < (l.length : Int) := by omega
        have HPE := Lib.hid hpe
        clear hpe
        clear hb HLS HH1 HH2
        go_wp2
        exact bodyPost_ret (v := .tuple #[.int .i64 (b : Nat), .bool false]) (by simp [results, Try.results64, go_sem]) rfl ⟨rfl, HB.out⟩
end Go.Proofs.Ytfnndifckgjmjaa
/- Memory: append of new zero elements beyond the room; what slices.Insert leaves there; slices.overlaps of two rows. -/
namespace Go.Afx
open Go Go.RowKit

section
variable {P : Program} {t e ty : TypeId} {sz bytes : Nat} {z : Value} {w : World}

theorem run_app_zeros (he : Elem P t e sz bytes z) {tn : TypeId} (htn : P.underlying tn = some (.int .i64)) {g off n cap : Nat} {cs : List Value} (hown : Own w e sz (.slice (some ⟨g, off, none⟩) n cap) n cs) {i k : Nat} (hi : i ≤ n) (h0 : 0 < k) (hs : 0 < sz)
    (hgr : cap < i + k) (h63 : i + k ≤ maxLen) (hb : (i + k) * bytes ≤ 140737488355328) :
    ∃ c zs, (∀ ty, (Builtin.append_ #[t, tn] ty #[.slice (some ⟨g, off, none⟩) i cap, .int .i64 (k : Int)]).run P w = .ok (.slice (some ⟨w.heap.size, 0, none⟩) (i + k) c) (w.drew.alloc (.cells (cs.take (i * sz) ++ zs).toArray e))) ∧
      i + k ≤ c ∧ c ≤ maxLen ∧ zs.length = (c - i) * sz ∧ Ones zs := by
  obtain ⟨inf, hi0, hz, hsize, hby⟩ := he.parts
  have ht := he.sl
  subst hsize
  subst hby
  have hd := hown.take hi
  have hdd := (hd.sl (B := fun _ => True) (fun _ _ => trivial)).drew
  have hfc := (hdd.first (P := P)).1
  have hlen : (cs.take (i * inf.size)).length = i * inf.size := hd.1
  have h48 : k * inf.bytes ≤ (i + k) * inf.bytes := Nat.mul_le_mul_right _ (by omega)
  have hr := fun ty => Lib.run_append_grow_zeros (P := P) w t tn ty e inf z .i64 .i64 ht htn hi0 hz (some ⟨g, off, none⟩) i cap (cs.take (i * inf.size)) hfc k h0 hs hgr (by simp only [maxLen] at h63; omega) (by omega) (growslice_fits hgr hb)
  have hge := grownCap_ge w (i + k) cap e
  have hcm : grownCap w (i + k) cap e ≤ maxLen := grownCap_le_maxLen w (i + k) cap e h63
  refine ⟨grownCap w (i + k) cap e, (Builtin.zeroCells z.cells k).toList ++ (Builtin.zeroCells z.cells (grownCap w (i + k) cap e - (i + k))).toList, fun ty => ?_, hge, hcm, ?_, (ones_zeroCells he.one _).append (ones_zeroCells he.one _)⟩
  · rw [hr ty]
    congr 3
    simp
  · rw [List.length_append, Array.length_toList, Array.length_toList, size_zeroCells, size_zeroCells, he.zs, ← Nat.add_mul]
    congr 1
    omega
theorem over_three (c1 zs vs c2 : List Value) (h : vs.length + c2.length ≤ zs.length) : over (over (c1 ++ zs) vs c1.length) c2 (c1.length + vs.length) = (c1 ++ (vs ++ c2)) ++ zs.drop (vs.length + c2.length) := by
  have e1 : c1 ++ zs = [] ++ ((c1 ++ zs.take (vs.length + c2.length)) ++ zs.drop (vs.length + c2.length)) := by simp
  have hl : (zs.take (vs.length + c2.length)).length = vs.length + c2.length := by rw [List.length_take]; omega
  have h1 := over_mid [] (c1 ++ zs.take (vs.length + c2.length)) (zs.drop (vs.length + c2.length)) vs c1.length (by rw [List.length_append, hl]; omega)
  simp only [List.length_nil, Nat.zero_add, List.nil_append] at h1 e1
  rw [e1, h1]
  have h2 := over_mid [] (over (c1 ++ zs.take (vs.length + c2.length)) vs c1.length) (zs.drop (vs.length + c2.length)) c2 (c1.length + vs.length) (by rw [over_length (by rw [List.length_append, hl]; omega), List.length_append, hl]; omega)
  simp only [List.length_nil, Nat.zero_add, List.nil_append] at h2
  rw [h2, over_two _ _ _ _ hl]
/-- What slices.Insert leaves in a new row. -/
theorem Own.insertedNew {w' : World} {g c n i m : Nat} {cs vs zs : List Value} (hcl : cs.length = n * sz) (hco : Ones cs) (hvl : vs.length = m * sz) (hvo : Ones vs) (hi : i ≤ n) (hz : zs.length = (c - i) * sz) (hnc : n + m ≤ c) (hcm : c ≤ maxLen)
    (hb : Blk w' g e (Afx.over (Afx.over (cs.take (i * sz) ++ zs) vs (i * sz)) (cs.drop (i * sz)) (i * sz + m * sz))) :
    Own w' e sz (.slice (some ⟨g, 0, none⟩) (n + m) c) (n + m) (cs.take (i * sz) ++ (vs ++ cs.drop (i * sz))) := by
  have hin : i * sz ≤ n * sz := Nat.mul_le_mul_right _ hi
  have hc1 : (cs.take (i * sz)).length = i * sz := by rw [List.length_take]; omega
  have hc2 : (cs.drop (i * sz)).length = (n - i) * sz := by rw [List.length_drop, hcl, Nat.sub_mul]
  have hle : m * sz + (n - i) * sz ≤ (c - i) * sz := by rw [← Nat.add_mul]; exact Nat.mul_le_mul_right _ (by omega)
  have ho := over_three (cs.take (i * sz)) zs vs (cs.drop (i * sz)) (by rw [hvl, hc2, hz]; exact hle)
  rw [hc1, hvl] at ho
  rw [ho] at hb
  have hres : (cs.take (i * sz) ++ (vs ++ cs.drop (i * sz))).length = (n + m) * sz := by
    rw [List.length_append, List.length_append, hc1, hvl, List.length_drop, hcl, Nat.add_mul]; omega
  refine ⟨hres, ?_, .inr ⟨g, 0, c, _, rfl, hb, hnc, hcm, ?_, ?_⟩⟩
  · intro u hu
    rcases List.mem_append.1 hu with hu | hu
    · exact hco u (List.mem_of_mem_take hu)
    · rcases List.mem_append.1 hu with hu | hu
      · exact hvo u hu
      · exact hco u (List.mem_of_mem_drop hu)
  · rw [List.length_append, hres, List.length_drop, hc2, hz, Nat.zero_add]
    have h1 : c * sz = (n + m) * sz + (c - (n + m)) * sz := by rw [← Nat.add_mul]; congr 1; omega
    have h2 : (c - i) * sz = m * sz + (n - i) * sz + (c - (n + m)) * sz := by rw [← Nat.add_mul, ← Nat.add_mul]; congr 1; omega
    omega
  · rw [List.drop_zero, ← hres, List.take_left]
theorem Blk.shape {b : Nat} {cs : List Value} (h : Blk w b t cs) : w.shape? b = some (t, cs.length) := by
  unfold Blk at h
  unfold World.shape?
  rw [h]
  simp
/-- slices.overlaps: no, for rows in two blocks. -/
theorem run_overlaps_no (he : Elem P t e sz bytes z) {tR : TypeId} {xb b o la ca lb cb : Nat} {news cur : List Value} (hx : Blk w xb e news) (hb : Blk w b e cur) (hne : xb ≠ b) (hc : cur ≠ []) :
    (Extern.SlicesOverlaps.overlaps #[t, t] #[tR] #[.slice (some ⟨xb, 0, none⟩) la ca, .slice (some ⟨b, o, none⟩) lb cb]).run P w = .ok (.bool false) w := by
  obtain ⟨i, hi, hz, hsize, hby⟩ := he.parts
  have hsz : ∀ w, (Go.sizeOf e).run P w = .ok i.size w := fun w => by simp [Go.sizeOf, typeInfo, hi]
  exact Lib.run_overlaps_apart w t tR e he.sl i.size hsz ⟨xb, 0, none⟩ ⟨b, o, none⟩ la ca lb cb hne e e news.length cur.length hx.shape hb.shape (fun h => hc (List.eq_nil_of_length_eq_zero h)) (hx.frozen 0) (hx.frozen _)
theorem below_setRow {w w' : World} (h : Below w.heap.size w w') {g : Nat} (hg : w.heap.size ≤ g) (cs : Array Value) : Below w.heap.size w (w'.setRow g cs) :=
  ((Only.of_below (S := fun k => w.heap.size ≤ k) h (fun i hi hs => hi)).setRow (fun hl => by omega) cs).below (Nat.le_refl _) (fun _ hi => hi)
theorem wpList_app_two {ops : Array Oper} {rest : List Oper} {o : Oper} {a : Act} {Q : Exit → Act → World → Prop} (hgd : o.guard = none) (s x : Operand) {tn : TypeId} (ho : o.op = .call { callee := .builtin .append, args := #[s, x], argTypes := #[t, tn] })
    {v : Value} (hs : a.eval s = v) {xv : Value} (hx : a.eval x = xv) {v' : Value} {w' : World}
    (hr : (Builtin.append_ #[t, tn] o.type #[v, xv]).run P w = .ok v' w')
    (h : wpList P ops Q rest (a.put o.dst v') w') : wpList P ops Q (o :: rest) a w := by
  refine wpList_plain hgd fun K hK => ?_
  unfold Oper.wp execOp
  simp only [ho, resolve, invoke, builtin, Sem.run_bind, Sem.run_pure, Result.andThen_ok, List.map_toArray, List.map_cons, List.map_nil, hs, hx, hr]
  exact hK _ _ h
end
end Go.Afx
