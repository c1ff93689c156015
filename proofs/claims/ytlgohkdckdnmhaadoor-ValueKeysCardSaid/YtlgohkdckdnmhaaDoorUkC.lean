/- The row of a key: the document's Unkey. -/
import Derived.Test.YtlgohkdckdnmhaaDoorUkB
import Derived.Test.YtlgohkdckdnmhaaDoorKyB
namespace Go.Proofs.YtlgohkdckdnmhaaDoor
open Go.RowKit Go.Afx

def refCand : List UInt8 → Option AV
  | [] => none
  | c :: t => if c = 1 ∧ 8 ≤ t.length then some ⟨1, dn64 (valB (t.take 8)), ⟨#[]⟩⟩ else if c = 2 then some ⟨2, 0, bs (scanF t)⟩ else match t with
    | [] => none
    | d :: _ => if c = 3 then some ⟨3, d.toNat, ⟨#[]⟩⟩ else none
theorem refCand_cons (c : UInt8) (t : List UInt8) : refCand (c :: t) = if c = 1 ∧ 8 ≤ t.length then some ⟨1, dn64 (valB (t.take 8)), ⟨#[]⟩⟩ else if c = 2 then some ⟨2, 0, bs (scanF t)⟩ else match t with
    | [] => none
    | d :: _ => if c = 3 then some ⟨3, d.toNat, ⟨#[]⟩⟩ else none := rfl
def chkP (v : AV) (s : List UInt8) : Option (AV × List UInt8) := if v.right && (keyB v).isPrefixOf s then some (v, s.drop (keyB v).length) else none
def refStep (s : List UInt8) : Option (AV × List UInt8) := match refCand s with
  | none => none
  | some v => chkP v s
theorem refCand_fit (s : List UInt8) (v : AV) (h : refCand s = some v) : fit64 v.n := by
  cases s with
  | nil => simp [refCand] at h
  | cons c t =>
    rw [refCand_cons] at h
    split at h
    · rename_i h1
      obtain rfl := Option.some.inj h
      have hl : (t.take 8).length = 8 := by rw [List.length_take]; omega
      have hlt := valB_lt (t.take 8)
      rw [hl] at hlt
      exact dn_fit _ hlt
    split at h
    · obtain rfl := Option.some.inj h
      simp [fit64]
    · cases t with
      | nil => cases h
      | cons d t =>
        simp only at h
        split at h
        · obtain rfl := Option.some.inj h
          have := d.toNat_lt
          unfold fit64
          simp only
          omega
        · cases h
theorem refCand_key (v : AV) (hr : v.right = true) (hf : fit64 v.n) (r : List UInt8) : refCand (keyB v ++ r) = some v := by
  obtain ⟨k, n, s⟩ := v
  unfold AV.right at hr
  simp only at hr hf
  by_cases h1 : k = 1
  · subst h1
    simp at hr
    obtain rfl := emptyS s (by simpa using hr)
    show refCand (1 :: (be 8 (up64 n) ++ r)) = _
    have hl : (be 8 (up64 n)).length = 8 := be_length 8 _
    rw [refCand_cons, if_pos ⟨rfl, by rw [List.length_append, hl]; omega⟩, List.take_left' hl, valB_be 8 _ (up64_lt n hf), dn_up n hf]
  by_cases h2 : k = 2
  · subst h2
    simp at hr
    obtain ⟨rfl, _⟩ := hr
    show refCand (2 :: ((esc 0 [0, 255] s.data.toList ++ [0, 1]) ++ r)) = _
    have hsc : scanF (esc 0 [0, 255] s.data.toList ++ [0, 1] ++ r) = s.data.toList := by
      rw [List.append_assoc]; exact scan_esc _ _
    rw [refCand_cons, if_neg (fun e => by cases e.1), if_pos rfl, hsc]; rfl
  · simp [h1, h2] at hr
    obtain ⟨⟨rfl, h4⟩, h5⟩ := hr
    obtain rfl := emptyS s (by simpa using h5)
    show refCand (3 :: UInt8.ofNat n.toNat :: r) = _
    rcases h4 with rfl | rfl <;> rfl
theorem ref_step (s : List UInt8) : refStep s = stepK s := by
  cases hr : refStep s with
  | some p =>
    obtain ⟨v, r⟩ := p
    unfold refStep at hr
    cases hc : refCand s with
    | none => rw [hc] at hr; cases hr
    | some x =>
      rw [hc] at hr
      simp only [chkP] at hr
      cases hb : (x.right && (keyB x).isPrefixOf s)
      · rw [hb] at hr; simp at hr
      · rw [hb, if_pos rfl] at hr
        obtain ⟨rfl, rfl⟩ := Prod.mk.inj (Option.some.inj hr)
        rw [Bool.and_eq_true] at hb
        have hp := List.isPrefixOf_iff_prefix.1 hb.2
        obtain ⟨r, hr2⟩ := hp
        have := stepK_key x hb.1 (refCand_fit s x hc) r
        rw [hr2] at this
        rw [this, ← hr2, List.drop_left]
  | none =>
    cases hs : stepK s with
    | none => rfl
    | some p =>
      obtain ⟨v, r⟩ := p
      obtain ⟨h1, h2, h3, _⟩ := stepK_some hs
      have h4 := refCand_key v h1 h2 r
      rw [← h3] at h4
      unfold refStep at hr
      rw [h4] at hr
      simp only [chkP] at hr
      have h5 : (keyB v).isPrefixOf s = true := List.isPrefixOf_iff_prefix.2 ⟨r, h3.symm⟩
      rw [h1, h5] at hr
      simp at hr
end Go.Proofs.YtlgohkdckdnmhaaDoor
