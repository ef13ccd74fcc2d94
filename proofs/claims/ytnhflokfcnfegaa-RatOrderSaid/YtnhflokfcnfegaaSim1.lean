/- What is proved: laws of a heap-free reading of the model's memory: when a value of the program's memory holds an abstract datum, and what leaves that so. -/
import Derived.Orders
import Derived.Below
import Derived.Laws.AppendOwn
import Derived.Laws.MakeOwn
import Derived.Laws.Entries
import Derived.Laws.Slices
namespace Go.Sim
open Go.RowKit

inductive All2 {α β : Type} (R : α → β → Prop) : List α → List β → Prop
  | nil : All2 R [] []
  | cons {x : α} {y : β} {xs : List α} {ys : List β} : R x y → All2 R xs ys → All2 R (x :: xs) (y :: ys)

theorem All2.imp {α β : Type} {R R' : α → β → Prop} (h : ∀ x y, R x y → R' x y) : ∀ {xs : List α} {ys : List β}, All2 R xs ys → All2 R' xs ys
  | _, _, .nil => .nil
  | _, _, .cons a b => .cons (h _ _ a) (All2.imp h b)

/-- Closed data: no address of the reader's own. -/
inductive DV where
  | v (x : Value)
  | st (ns : List Nat) (xs : List DV)
  | ar (sz : Nat) (xs : List DV)
  | sl (E : TypeId) (sz : Nat) (xs : List DV)
  | tup (xs : List DV)
  | pd (x : DV)
  | fn (f : FuncId) (cs : List DV)

mutual
def RepD (w : World) (S : Nat → Prop) : DV → List Value → Prop
  | .v x, cs => cs = [x] ∧ x.oneCell' = true
  | .st ns xs, cs => RepF w S xs ns cs
  | .ar sz xs, cs => RepF w S xs (List.replicate xs.length sz) cs
  | .sl _ sz xs, cs => ∃ a c row, cs = [.slice a xs.length c] ∧ xs.length ≤ c ∧ RepF w S xs (List.replicate xs.length sz) row ∧
      (row = [] ∨ ∃ b o, a = some ⟨b, o, none⟩ ∧ S b ∧ ∀ j u, row[j]? = some u → w.cell? ⟨b, o + j, none⟩ = some u)
  | .tup _, _ => False
  | .pd x, cs => ∃ b o ds, cs = [.pointer (some ⟨b, o, none⟩)] ∧ RepD w S x ds ∧ (ds = [] ∨ S b ∧ ∀ j u, ds[j]? = some u → w.cell? ⟨b, o + j, none⟩ = some u)
  | .fn f xs, cs => ∃ vs : List Value, cs = [.func (.func f) #[] vs.toArray] ∧ RepF w S xs (List.replicate xs.length 1) vs
def RepF (w : World) (S : Nat → Prop) : List DV → List Nat → List Value → Prop
  | [], ns, cs => ns = [] ∧ cs = []
  | x :: xs, ns, cs => ∃ n ns' c1 c2, ns = n :: ns' ∧ cs = c1 ++ c2 ∧ c1.length = n ∧ RepD w S x c1 ∧ RepF w S xs ns' c2
end

theorem cell?_heap {w w' : World} {S : Nat → Prop} (h : ∀ k, S k → k < w.heap.size → w'.heap[k]? = w.heap[k]?) {b o : Nat} {u : Value} (hb : S b)
    (hc : w.cell? ⟨b, o, none⟩ = some u) : w'.cell? ⟨b, o, none⟩ = some u := by
  have hlt := World.block_lt_of_cell? w _ hc
  rw [World.cell?_of_block (w := w) (h b hb hlt)]; exact hc

mutual
theorem RepD.frame {w w' : World} {S S' : Nat → Prop} (hS : ∀ k, S k → S' k) (h : ∀ k, S k → k < w.heap.size → w'.heap[k]? = w.heap[k]?) :
    ∀ (x : DV) (cs : List Value), RepD w S x cs → RepD w' S' x cs
  | .v _, _, hr => hr
  | .st ns xs, cs, hr => RepF.frame hS h xs ns cs hr
  | .ar _ xs, cs, hr => RepF.frame hS h xs _ cs hr
  | .sl _ sz xs, cs, hr => by
    simp only [RepD] at hr ⊢
    obtain ⟨a, c, row, h1, h2, h3, h4⟩ := hr
    refine ⟨a, c, row, h1, h2, RepF.frame hS h xs _ row h3, ?_⟩
    rcases h4 with h4 | ⟨b, o, e, hb, hc⟩
    · exact .inl h4
    · exact .inr ⟨b, o, e, hS b hb, fun j u hj => cell?_heap h hb (hc j u hj)⟩
  | .tup _, _, hr => by simp only [RepD] at hr
  | .pd x, cs, hr => by
    simp only [RepD] at hr ⊢
    obtain ⟨b, o, ds, h1, h2, h3⟩ := hr
    exact ⟨b, o, ds, h1, RepD.frame hS h x ds h2, h3.imp id fun ⟨k1, k2⟩ => ⟨hS b k1, fun j u hj => cell?_heap h k1 (k2 j u hj)⟩⟩
  | .fn f xs, cs, hr => by
    simp only [RepD] at hr ⊢
    obtain ⟨vs, h1, h2⟩ := hr
    exact ⟨vs, h1, RepF.frame hS h xs _ vs h2⟩
theorem RepF.frame {w w' : World} {S S' : Nat → Prop} (hS : ∀ k, S k → S' k) (h : ∀ k, S k → k < w.heap.size → w'.heap[k]? = w.heap[k]?) :
    ∀ (xs : List DV) (ns : List Nat) (cs : List Value), RepF w S xs ns cs → RepF w' S' xs ns cs
  | [], _, _, hr => by simpa only [RepF] using hr
  | x :: xs, ns, cs, hr => by
    simp only [RepF] at hr ⊢
    obtain ⟨n, ns', c1, c2, e1, e2, e3, h1, h2⟩ := hr
    exact ⟨n, ns', c1, c2, e1, e2, e3, RepD.frame hS h x c1 h1, RepF.frame hS h xs ns' c2 h2⟩
end

theorem RepF.length {w : World} {S : Nat → Prop} : ∀ {xs : List DV} {ns : List Nat} {cs : List Value}, RepF w S xs ns cs → cs.length = ns.sum ∧ xs.length = ns.length
  | [], _, _, h => by simp only [RepF] at h; obtain ⟨rfl, rfl⟩ := h; simp
  | x :: xs, ns, cs, h => by
    simp only [RepF] at h
    obtain ⟨n, ns', c1, c2, rfl, rfl, rfl, _, h2⟩ := h
    have := RepF.length h2
    simp [this.1, this.2]

/-- One datum out of a row, and another one in its place. -/
theorem RepF.at {w : World} {S : Nat → Prop} : ∀ {xs : List DV} {ns : List Nat} {cs : List Value} {i : Nat} {x : DV}, RepF w S xs ns cs → xs[i]? = some x →
    ∃ c1 c2 c3 n, ns[i]? = some n ∧ cs = c1 ++ c2 ++ c3 ∧ c1.length = (ns.take i).sum ∧ c2.length = n ∧ RepD w S x c2 ∧
      ∀ w' S' y c2', (∀ z c, RepD w S z c → RepD w' S' z c) → c2'.length = n → RepD w' S' y c2' → RepF w' S' (xs.set i y) ns (c1 ++ c2' ++ c3)
  | [], _, _, _, _, _, hx => by simp at hx
  | x0 :: xs, ns, cs, 0, x, h, hx => by
    simp only [RepF] at h
    obtain ⟨n, ns', c1, c2, rfl, rfl, e3, h1, h2⟩ := h
    simp at hx; subst hx
    refine ⟨[], c1, c2, n, by simp, by simp, by simp, e3, h1, ?_⟩
    intro w' S' y c2' hfr hl hy
    simp only [List.set_cons_zero, RepF, List.nil_append]
    refine ⟨n, ns', c2', c2, rfl, rfl, hl, hy, ?_⟩
    clear h1 hy hl e3 c1
    induction xs generalizing ns' c2 with
    | nil => simpa only [RepF] using h2
    | cons z zs ih =>
      simp only [RepF] at h2 ⊢
      obtain ⟨n', ns'', d1, d2, e1, e2, e4, k1, k2⟩ := h2
      exact ⟨n', ns'', d1, d2, e1, e2, e4, hfr _ _ k1, ih _ _ k2⟩
  | x0 :: xs, ns, cs, i + 1, x, h, hx => by
    simp only [RepF] at h
    obtain ⟨n, ns', c1, c2, rfl, rfl, e3, h1, h2⟩ := h
    simp at hx
    obtain ⟨d1, d2, d3, m, hm, e, hl1, hl2, hd, hput⟩ := RepF.at h2 hx
    refine ⟨c1 ++ d1, d2, d3, m, by simpa using hm, by simp [e], by simp [hl1, e3], hl2, hd, ?_⟩
    intro w' S' y c2' hfr hl hy
    simp only [List.set_cons_succ, RepF]
    exact ⟨n, ns', c1, d1 ++ c2' ++ d3, rfl, by simp, e3, hfr _ _ h1, hput w' S' y c2' hfr hl hy⟩

theorem RepF.append {w : World} {S : Nat → Prop} : ∀ {xs ys : List DV} {ns ms : List Nat} {cs ds : List Value}, RepF w S xs ns cs → RepF w S ys ms ds → RepF w S (xs ++ ys) (ns ++ ms) (cs ++ ds)
  | [], ys, ns, ms, cs, ds, h, k => by simp only [RepF] at h; obtain ⟨rfl, rfl⟩ := h; simpa using k
  | x :: xs, ys, ns, ms, cs, ds, h, k => by
    simp only [RepF, List.cons_append] at h ⊢
    obtain ⟨n, ns', c1, c2, rfl, rfl, e3, h1, h2⟩ := h
    exact ⟨n, ns' ++ ms, c1, c2 ++ ds, rfl, by simp, e3, h1, RepF.append h2 k⟩

theorem RepF.split {w : World} {S : Nat → Prop} : ∀ {xs ys : List DV} {ns : List Nat} {cs : List Value}, RepF w S (xs ++ ys) ns cs →
    ∃ n1 n2 c1 c2, ns = n1 ++ n2 ∧ cs = c1 ++ c2 ∧ n1.length = xs.length ∧ RepF w S xs n1 c1 ∧ RepF w S ys n2 c2
  | [], ys, ns, cs, h => ⟨[], ns, [], cs, rfl, rfl, rfl, by simp [RepF], h⟩
  | x :: xs, ys, ns, cs, h => by
    simp only [RepF, List.cons_append] at h
    obtain ⟨n, ns', c1, c2, rfl, rfl, e3, h1, h2⟩ := h
    obtain ⟨n1, n2, d1, d2, rfl, rfl, hl, k1, k2⟩ := RepF.split h2
    refine ⟨n :: n1, n2, c1 ++ d1, d2, rfl, by simp, by simp [hl], ?_, k2⟩
    simp only [RepF]
    exact ⟨n, n1, c1, d1, rfl, rfl, e3, h1, k1⟩

end Go.Sim
