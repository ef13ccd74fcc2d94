/- What is proved: the program's structs as Lean's, how they lie in memory, and their equality. -/
import Derived.Test.YtifjflhnfjhijaaGreatDoorZPSTab
import Derived.Test.YtifjflhnfjhijaaGreatDoorZPSSimJ

namespace Go.Sim.YtifjflhnfjhijaaGreatDoor
open Go.RowKit Go.Proofs Go.Proofs.Tryz
set_option maxRecDepth 100000
structure GRat where
 N : Int
 D : Int
abbrev GRat.zero : GRat := ⟨(0 : Int), (0 : Int)⟩
abbrev GRat.enc (x : GRat) : DV := .st [1, 1] [.v (.int .i64 x.N), .v (.int .i64 x.D)]
def GRat.beq (x y : GRat) : Bool := (x.N == y.N) && ((x.D == y.D) && true)
theorem GRat.eqok23 (d : Nat) (x y : GRat) : EqOk prog (d + 2) 23 (GRat.enc x) (GRat.enc y) (GRat.beq x y) :=
 EqOk.struct q01 Tryz.underlying23 (by decide +kernel) ⟨by decide, rfl, ⟨te2, rfl, rfl, rfl⟩, _, _, (EqOk.int ok2 rfl), ⟨by decide, rfl, ⟨te2, rfl, rfl, rfl⟩, _, _, (EqOk.int ok2 rfl), rfl, rfl⟩, rfl⟩
theorem GRat.beq_iff (x y : GRat) : GRat.beq x y = true ↔ x = y := by
 cases x; cases y; simp [GRat.beq]
structure GTree where
 Kind : Int
 Name : ByteArray
 Alias : ByteArray
 N : Int
 M : Int
 Flag : Bool
 Num : GRat
 Kids : List GTree
abbrev GTree.zero : GTree := ⟨(0 : Int), (ByteArray.mk #[]), (ByteArray.mk #[]), (0 : Int), (0 : Int), false, GRat.zero, ([] : List GTree)⟩
mutual
def GTree.enc : GTree -> DV
 | ⟨x0, x1, x2, x3, x4, x5, x6, x7⟩ => .st [1, 1, 1, 1, 1, 1, 2, 1] [.v (.int .i64 x0), .v (.string x1), .v (.string x2), .v (.int .i64 x3), .v (.int .i64 x4), .v (.bool x5), GRat.enc x6, .sl 26 9 (GTree.encL x7)]
def GTree.encL : List GTree -> List DV
 | [] => []
 | x :: xs => GTree.enc x :: GTree.encL xs
end
theorem GTree.encL_map : ∀ xs : List GTree, GTree.encL xs = xs.map GTree.enc
 | [] => by simp [GTree.encL]
 | x :: xs => by simp [GTree.encL, GTree.encL_map xs]
abbrev GTree.out (x : GTree) : DV := .st [1, 1, 1, 1, 1, 1, 2, 1] [.v (.int .i64 x.Kind), .v (.string x.Name), .v (.string x.Alias), .v (.int .i64 x.N), .v (.int .i64 x.M), .v (.bool x.Flag), GRat.enc x.Num, .sl 26 9 (List.map GTree.enc x.Kids)]
theorem GTree.enc_out (x : GTree) : GTree.enc x = GTree.out x := by
 cases x; simp only [GTree.enc, GTree.out, GTree.encL_map]
theorem GTree.get {xs : List GTree} {m : Nat} {x : GTree} (h : xs[m]? = some x) : (xs.map GTree.enc)[m]? = some (GTree.out x) := by rw [← GTree.enc_out]; exact q1g h
structure Gparsestop where
 bad_ : Int
 at_ : Int
structure GToken where
 Kind : Int
 S : ByteArray
 Num : GRat
 At : Int
abbrev GToken.zero : GToken := ⟨(0 : Int), (ByteArray.mk #[]), GRat.zero, (0 : Int)⟩
abbrev GToken.enc (x : GToken) : DV := .st [1, 1, 2, 1] [.v (.int .i64 x.Kind), .v (.string x.S), GRat.enc x.Num, .v (.int .i64 x.At)]
structure Gparseparser where
 l_ : List GToken
 i_ : Int
 open_ : Int
abbrev Gparseparser.enc (x : Gparseparser) : DV := .st [1, 1, 1] [.sl 52 5 (List.map GToken.enc x.l_), .v (.int .i64 x.i_), .v (.int .i64 x.open_)]
structure Gref13P where
 L : List GToken
 I : Int
 Open : Int
 Bad : Int
 At : Int
abbrev Gref13P.zero : Gref13P := ⟨([] : List GToken), (0 : Int), (0 : Int), (0 : Int), (0 : Int)⟩
abbrev Gref13P.enc (x : Gref13P) : DV := .st [1, 1, 1, 1, 1] [.sl 52 5 (List.map GToken.enc x.L), .v (.int .i64 x.I), .v (.int .i64 x.Open), .v (.int .i64 x.Bad), .v (.int .i64 x.At)]
structure Glexlexer where
 s_ : ByteArray
 at_ : Int
 words_ : List (ByteArray × Unit)
abbrev Glexlexer.zero : Glexlexer := ⟨(ByteArray.mk #[]), (0 : Int), ([] : List (ByteArray × Unit))⟩
abbrev Glexlexer.enc (x : Glexlexer) : DV := .st [1, 1, 1] [.v (.string x.s_), .v (.int .i64 x.at_), .mp (List.map (fun e => (fun s : ByteArray => Value.string s) e.1) x.words_) (List.map (fun e => (fun _ : Unit => DV.st [] []) e.2) x.words_)]
def GRat.ok (x : GRat) : Prop := qBp .i64 x.N /\ qBp .i64 x.D
mutual
def GTree.ok : GTree -> Prop
 | ⟨x0, x1, x2, x3, x4, _, x6, x7⟩ => qBp .i64 x0 /\ x1.size <= maxLen /\ x2.size <= maxLen /\ qBp .i64 x3 /\ qBp .i64 x4 /\ GRat.ok x6 /\ (x7.length <= maxLen /\ GTree.okL x7)
def GTree.okL : List GTree -> Prop
 | [] => True
 | x :: xs => GTree.ok x /\ GTree.okL xs
end
theorem GTree.okL_iff : ∀ xs : List GTree, GTree.okL xs ↔ ∀ x ∈ xs, GTree.ok x
 | [] => by simp [GTree.okL]
 | x :: xs => by simp [GTree.okL, GTree.okL_iff xs]
theorem GTree.ok_iff (x : GTree) : GTree.ok x ↔ qBp .i64 x.Kind /\ x.Name.size <= maxLen /\ x.Alias.size <= maxLen /\ qBp .i64 x.N /\ qBp .i64 x.M /\ GRat.ok x.Num /\ (x.Kids.length <= maxLen /\ ∀ z0 ∈ x.Kids, GTree.ok z0) := by
 cases x; simp only [GTree.ok, GTree.okL_iff]
end Go.Sim.YtifjflhnfjhijaaGreatDoor

/- What is proved: bytes laid by a literal and turned to their own type (a string's constant as bytes): they are marked, and shared from then on. -/
namespace Go.Sim
open Go.RowKit
section
variable {P : Program} {N : Value -> Prop} {T : Tab} {σ : St}
theorem RelG.spent {B : Nat -> Nat -> Prop} {F : Cx} {w0 w w' : World} {n : Nat} {σ : St} {a : Act} {g : Gh} (h : RelG B F w0 n σ a w g) {id : Nat} (hlow : id < 1000000) (hid : g.has id) (hb : BelowB (g.blk id) w w') :
    RelG B F w0 n (σ.set id .gone) a w' { g with S := fun k => g.S k \/ k = g.blk id, has := upd g.has id False } := by
  obtain ⟨k1, k2, k3⟩ := h.own id hid
  have hS : ∀ k, g.S k -> g.S k \/ k = g.blk id := fun _ hk => .inl hk
  have hm : ∀ k, g.S k -> k < w.heap.size -> w'.heap[k]? = w.heap[k]? := fun k hk hlt => hb.old k hlt (fun e => k1 (e ▸ hk))
  refine { os := hb.os.trans h.os, tape := hb.tape.trans h.tape, output := hb.output.trans h.output, size := Nat.le_trans h.size hb.size, old := fun k hk hB => ?_, n := h.n, nlt := h.nlt, glob := h.glob, defers := h.defers, sF := ?_, sB := ?_, own := ?_, dj := ?_, slots := ?_, objs := ?_, ok := q50 h.ok (fun _ _ _ e => by cases e), hv := h.hv, sub := ?_ }
  · rw [hb.old k (Nat.lt_of_lt_of_le hk h.size)]
    · exact h.old k hk hB
    · intro e
      have := k2.new hlow
      omega
  · rintro k (hk | rfl)
    · exact h.sF k hk
    · exact .inr (k2.new hlow)
  · rintro k (hk | rfl)
    · exact Nat.lt_of_lt_of_le (h.sB k hk) hb.size
    · exact Nat.lt_of_lt_of_le k3 hb.size
  · intro i hi
    by_cases he : i = id
    · subst he; simp [q0b] at hi
    · simp only [q0j _ _ _ he] at hi
      obtain ⟨m1, m2, m3⟩ := h.own i hi
      exact ⟨fun hs => hs.elim m1 (fun hs => h.dj i id he hi hid hs), m2, Nat.lt_of_lt_of_le m3 hb.size⟩
  · intro i j hij hi hj
    by_cases he : i = id
    · subst he; simp [q0b] at hi
    · by_cases he' : j = id
      · subst he'; simp [q0b] at hj
      · simp only [q0j _ _ _ he, q0j _ _ _ he'] at hi hj; exact h.dj i j hij hi hj
  · exact h.slots' (g' := { g with S := fun k => g.S k \/ k = g.blk id, has := upd g.has id False }) hS hm (fun _ _ => rfl) (fun _ _ => rfl)
  · intro i
    rw [St.obj_set]
    by_cases he : i = id
    · subst he; simp [RepO, q0b]
    · simp only [if_neg he]
      exact RepO.frame h (g' := { g with S := fun k => g.S k \/ k = g.blk id, has := upd g.has id False }) hS hm (fun _ _ => rfl) (fun _ _ => rfl) i (by simp only [q0j _ _ _ he]) (fun hi => hb.old _ (h.own i hi).2.2 (fun e => h.dj i id he hi hid e)) (fun _ _ hb' => hb') (fun j b hb' => hb.old b (h.sub i j b hb').2.2.1 (fun e => (h.sub i j b hb').2.2.2.1 id hid e.symm))
  · intro i j b hb'
    obtain ⟨m1, m2, m3, m4, m5⟩ := h.sub i j b hb'
    refine ⟨fun hs => hs.elim m1 (fun hs => m4 id hid hs.symm), m2, Nat.lt_of_lt_of_le m3 hb.size, fun k hk => ?_, m5⟩
    by_cases he : k = id
    · subst he; simp [q0b] at hk
    · simp only [q0j _ _ _ he] at hk; exact m4 k hk
def qKu (w : World) (b : Nat) (m : Nat × Nat) : World := { w with heap := w.heap.modify b fun | .cells c e _ => .cells c e m | o => o }
theorem qGq {w : World} {t e : TypeId} {b n c : Nat} {C : Array Value} {E : TypeId} (ht : P.underlying t = some (.slice e)) (he : P.underlying e = some (.int .u8)) (hb : w.heap[b]? = some (.cells C E (0, 0))) :
    (convert t t (.slice (some ⟨b, 0, none⟩) n c)).run P w = .ok (.slice (some ⟨b, 0, none⟩) n c) (qKu w b (C.size, C.size + 1)) := by
  have hsh : w.shape? b = some (E, C.size) := by unfold World.shape?; rw [hb]
  have hf : w.freeze ⟨b, C.size, none⟩ 1 = qKu w b (C.size, C.size + 1) := by
    unfold World.freeze qKu
    rw [if_neg (by decide)]
    congr 1
    apply Array.ext
    · simp
    · intro i h1 h2
      simp only [Array.getElem_modify]
      split
      · rename_i hi
        subst hi
        have hg : w.heap[b]? = some (w.heap[b]'(by simpa using h2)) := Array.getElem?_eq_getElem _
        rw [hb] at hg
        rw [← Option.some.inj hg]
        rfl
      · rfl
  simp [convert, run_underlying ht, run_underlying he, markStringish, hsh]
  exact hf
theorem Step.ownbytes (hT : q0r P T) {o : Oper} {t : TypeId} {x : Operand} {E E' : TypeId} {te : TE} {id sz : Nat} {xs : List DV} (ho : o.op = .convert t t x) (hs : slE T t = some (E, te)) (hd : te.d = .int .u8)
    (hx : ev σ x = .oref id) (hob : σ.obj id = some (.row E' sz xs)) (hne : xs ≠ []) (hlow : id < 1000000) : Step P N true σ o ⟨.dat (.sl E' sz xs), [(id, .gone)]⟩ where
  ok := by
    rintro σ' ⟨g1, g2, g3⟩ B F w0 n a w hdn ⟨g, r⟩ Q _
    have hmem : x ∈ o.op.operands := by simp [ho, Op.operands]
    have hl : looks o = true := by simp [looks, ho]
    have hob' : σ'.obj id = some (.row E' sz xs) := by rw [g3 hl x hmem id (by rw [hx]; simp [AV.refs])]; exact hob
    have hev := ev_rep r x
    rw [g1 x hmem, hx] at hev
    simp only [RepS] at hev
    have hO := r.objs id
    rw [hob'] at hO
    simp only [RepO] at hO
    rcases hO with ⟨_, h2, _⟩ | ⟨m1, c, cur, m2, m3, m4, m5, m6, m7⟩
    · exact absurd h2 hne
    obtain ⟨u1, u2, _⟩ := qEj hT hs
    have hu := u8Of u2 hd
    have hlt : g.blk id < w.heap.size := (r.own id m1).2.2
    have hrun := qGq (n := xs.length) (c := c) u1 hu m3
    have hbel : BelowB (g.blk id) w (qKu w (g.blk id) (cur.size, cur.size + 1)) := ⟨rfl, rfl, rfl, by simp [qKu], fun k hk hne => by
      unfold qKu
      simp only [Array.getElem?_modify, if_neg (Ne.symm hne)]⟩
    have r2 := r.spent hlow m1 hbel
    have m3' : (qKu w (g.blk id) (cur.size, cur.size + 1)).heap[g.blk id]? = some (.cells cur E' (cur.size, cur.size + 1)) := by
      unfold qKu
      simp only [Array.getElem?_modify, if_true, m3, Option.map_some]
    unfold Oper.wp
    have hrun' : (execOp a.eval o).run P w = .ok (.value (.slice (some ⟨g.blk id, 0, none⟩) xs.length c)) (qKu w (g.blk id) (cur.size, cur.size + 1)) := by
      simp [execOp, ho, hev, m2, hrun]
    rw [hrun', Oper.upon_value]
    refine ⟨_, RelG.putO r2 o.dst (x := .dat (.sl E' sz xs)) ?_ (fun k hk => by simp [AV.refs] at hk) hdn⟩
    simp only [RepS, RepV, RepD]
    refine ⟨_, c, _, rfl, m5, RepF.frame (fun k hk => .inl hk) (fun k hk hk2 => hbel.old k hk2 (fun e => (r.own id m1).1 (e ▸ hk))) _ _ _ m7, .inr ⟨g.blk id, 0, rfl, .inr rfl, fun j u hj => ?_⟩⟩
    rw [List.getElem?_take] at hj
    unfold World.cell?
    rw [m3']
    split at hj
    · simpa using hj
    · cases hj
  objs := fun p hp => by
    simp only [List.mem_singleton] at hp
    subst hp
    exact .inr ⟨rfl, by simp [looks, ho], x, by simp [wr, ho, Op.operands], by rw [hx]; simp [AV.refs]⟩
  okk := fun σ' hA ok => by
    have h1 := q50 ok (d := id) (o := .gone) (fun _ _ _ e => by cases e)
    refine ⟨fun i k hk => ?_, q9j (q1r _ _ _) h1.2⟩
    rw [q3p] at hk
    rw [q1r]
    split at hk
    · simp [AV.refs] at hk
    · exact h1.1 i k hk
  near := fun y h => by rw [ho] at h; simp [carry] at h
variable {ops : Array Oper} {cf : Oper -> Bool} {K : q1f -> St -> Prop} {o : Oper} {rest : List Oper} {L : List (Nat × AV)} {O : List (Nat × Obj)}
theorem AOps.ownbytes (hT : q0r P T) {d : Nat} {t : TypeId} {x : Operand} {E E' : TypeId} {te : TE} {id sz : Nat} {y : DV} {xs : List DV} (ho : o.op = .convert t t x) (hd : o.dst = some d) (hg : gOn ops L o = true) (hcf : cf o = true) (hs : slE T t = some (E, te)) (hdd : te.d = .int .u8)
    (hx : ev (mkSt L O) x = .oref id) (hob : q0v O id = some (.row E' sz (y :: xs))) (hlow : Nat.ble 1000000 id = false) (k : AOps P ops cf K rest (mkSt ((d, .dat (.sl E' sz (y :: xs))) :: L) ((id, .gone) :: O))) : AOps P ops cf K (o :: rest) (mkSt L O) := by
  refine AOps.eff hg (e := ⟨.dat (.sl E' sz (y :: xs)), [(id, .gone)]⟩) ?_ (by rw [hd]; exact k)
  rw [hcf]
  exact Step.ownbytes hT ho hs hdd hx hob (by simp) (by
    by_cases h : id < 1000000
    · exact h
    · rw [Nat.ble_eq_true_of_le (by omega)] at hlow; cases hlow)
end
def qVc (fs : List Nat) (o : Oper) : Bool :=
 q00 fs o || match o.op with
  | .convert a b _ => Nat.beq a b
  | _ => false
end Go.Sim

/- What is proved: calls with a box of one's own that may panic; what follows a panic in a region is never reached; a region that ends in a panic. -/
namespace Go.Sim
open Go.RowKit
theorem qAf (k : Nat) : ¬ bot.refs k := by simp [bot, AV.refs, AV.refs.refsL]
def NoRel (σ : St) : Prop := ∃ id Ty sz, σ.obj id = some (.box Ty sz bot)
theorem NoRel.elim {B : Nat -> Nat -> Prop} {F : Cx} {w0 w : World} {n : Nat} {σ : St} {a : Act} (h : NoRel σ) (r : Rel B F w0 n σ a w) : False := by
 obtain ⟨id, Ty, sz, h⟩ := h
 obtain ⟨g, r⟩ := r
 have hO := r.objs id
 rw [h] at hO
 simp [RepO, bot, RepA, RepAF] at hO
@[reducible] def orBot (Q : q1f -> St -> Prop) : q1f -> St -> Prop
 | .panic v, σ => Q (.panic v) σ
 | e, σ => Q e σ \/ NoRel σ
theorem AWp.bots {P : Program} {B : Nat -> Nat -> Prop} {n : Nat} {c : Code} {σ : St} {Q : q1f -> St -> Prop} (h : AWp P B n c σ (orBot Q)) : AWp P B n c σ Q := by
 intro F w0 a w r
 refine wp_mono (h F w0 a w r) fun e a w hp => ?_
 cases e with
 | normal =>
  simp only [post] at hp ⊢
  obtain ⟨σ', h1, h2⟩ := hp
  rcases h1 with h1 | h1
  ·exact ⟨σ', h1, h2⟩
  ·exact (h1.elim h2).elim
 | ret =>
  simp only [post] at hp ⊢
  obtain ⟨σ', h1, h2⟩ := hp
  rcases h1 with h1 | h1
  ·exact ⟨σ', h1, h2⟩
  ·exact (h1.elim h2).elim
 | exit i =>
  simp only [post] at hp ⊢
  obtain ⟨σ', h1, h2⟩ := hp
  rcases h1 with h1 | h1
  ·exact ⟨σ', h1, h2⟩
  ·exact (h1.elim h2).elim
 | panic ch => exact hp
 | goto l => exact hp.elim
 | outgrown => exact hp.elim
section
variable {P : Program} {N : Value -> Prop} {T : Tab} {σ : St}
theorem Step.deadV {c : Bool} {o : Oper} {x : Operand} (hx : x ∈ o.op.operands) (h : ev σ x = bot) : Step P N c σ o ⟨bot, []⟩ where
 ok := by
  rintro σ' ⟨g1, _, _⟩ B F w0 n a w _ ⟨g, r⟩
  have := ev_rep r x
  rw [g1 x hx, h] at this
  exact (qV6 this).elim
 objs := fun p hp => by cases hp
 okk := fun σ' _ ok => qUa ok o.dst
 near := fun y h k hk => (qAf k hk).elim
 made := fun _ k hk => (qAf k hk).elim
theorem Step.deadO {c : Bool} {o : Oper} {x : Operand} {id off : Nat} {p : List Pa} {Ty : TypeId} {sz : Nat} (hx : x ∈ o.op.operands) (hl : looks o = true) (h : ev σ x = .pt id p off) (hob : σ.obj id = some (.box Ty sz bot)) : Step P N c σ o ⟨bot, []⟩ where
 ok := by
  rintro σ' ⟨_, _, g3⟩ B F w0 n a w _ r
  have : NoRel σ' := ⟨id, Ty, sz, by rw [g3 hl x hx id (by rw [h]; simp [AV.refs])]; exact hob⟩
  exact (this.elim r).elim
 objs := fun p hp => by cases hp
 okk := fun σ' _ ok => qUa ok o.dst
 near := fun y h k hk => (qAf k hk).elim
 made := fun _ k hk => (qAf k hk).elim
end
def qTa : AV -> Bool
 | .st [1] [] => true
 | _ => false
theorem qOl {x : AV} (h : qTa x = true) : x = bot := by
 unfold qTa at h; split at h
 ·rfl
 ·cases h
def qVd (L : List (Nat × AV)) (O : List (Nat × Obj)) (lk : Bool) (x : Operand) : Bool := match ev (mkSt L O) x with
 | .pt id _ _ => lk && (match q0v O id with | some (.box _ _ y) => qTa y | _ => false)
 | y => qTa y
def litD (T : Tab) (ops : Array Oper) (L : List (Nat × AV)) (O : List (Nat × Obj)) (o : Oper) : Option (Nat × AV) := match dstG ops L o, o.op with
 | some d, .buildSlice t m ps => match slE T t with
  | some (E, te) => match Nat.ble (m * te.size) 16777216 with
   | true => match q8p T E te.size (mkSt L O) ps.toList (List.replicate m te.zero) with
    | some ys => some (d, .dat (.sl E te.size ys))
    | none => none
   | false => none
  | none => none
 | _, _ => none
theorem AOps.litD {P : Program} {T : Tab} {ops : Array Oper} {cf : Oper -> Bool} {K : q1f -> St -> Prop} {o : Oper} {rest : List Oper} {L : List (Nat × AV)} {O : List (Nat × Obj)} {d : Nat} {x : AV} (hT : q0r P T) (h : Sim.litD T ops L O o = some (d, x)) (k : AOps P ops cf K rest (mkSt ((d, x) :: L) O)) :
    AOps P ops cf K (o :: rest) (mkSt L O) := by
  unfold Sim.litD at h
  split at h
  · rename_i d' t m ps hd ho
    split at h
    · rename_i E te hs
      split at h
      · rename_i hm
        split at h
        · rename_i ys hb
          simp only [Option.some.injEq, Prod.mk.injEq] at h
          obtain ⟨rfl, rfl⟩ := h
          exact AOps.lit hT ho (q58 hd).1 (q58 hd).2 hs hm hb k
        · cases h
      · cases h
    · cases h
  · cases h
def allocD (T : Tab) (ops : Array Oper) (L : List (Nat × AV)) (O : List (Nat × Obj)) (o : Oper) : Option (Nat × Obj) := match dstG ops L o, o.op with
 | some d, .alloc E => match tget T E, q0v O d with
  | some te, none => some (d, .box E te.size (.dat te.zero))
  | _, _ => none
 | some d, .box E x => match (ev (mkSt L O) x).lies, q0v O d with
  | true, none => some (d, .box E (ev (mkSt L O) x).len (ev (mkSt L O) x))
  | _, _ => none
 | _, _ => none
theorem AOps.allocD {P : Program} {T : Tab} {ops : Array Oper} {cf : Oper -> Bool} {K : q1f -> St -> Prop} {o : Oper} {rest : List Oper} {L : List (Nat × AV)} {O : List (Nat × Obj)} {d : Nat} {x : Obj} (hT : q0r P T) (h : Sim.allocD T ops L O o = some (d, x)) :
    q0v O d = none /\ (AOps P ops cf K rest (mkSt ((d, .pt d [] 0) :: L) ((d, x) :: O)) -> AOps P ops cf K (o :: rest) (mkSt L O)) := by
  unfold Sim.allocD at h
  split at h
  · rename_i d' E hd ho
    split at h
    · rename_i te ht hn
      simp only [Option.some.injEq, Prod.mk.injEq] at h
      obtain ⟨rfl, rfl⟩ := h
      exact ⟨hn, fun k => AOps.alloc hT ho (q58 hd).1 (q58 hd).2 ht hn k⟩
    · cases h
  · rename_i d' E y hd ho
    split at h
    · rename_i hl hn
      simp only [Option.some.injEq, Prod.mk.injEq] at h
      obtain ⟨rfl, rfl⟩ := h
      exact ⟨hn, fun k => AOps.box ho (q58 hd).1 (q58 hd).2 rfl hl hn k⟩
    · cases h
  · cases h
def deadRest (T : Tab) (ops : Array Oper) : List (Nat × Obj) -> List Oper -> List (Nat × AV) -> Bool
 | _, [], _ => true
 | O, o :: rest, L => match gOff ops L o with
  | true => match o.dst with
   | some d => deadRest T ops O rest ((d, .dat (.tup [])) :: L)
   | none => deadRest T ops O rest L
  | false => match gOn ops L o && o.op.operands.toList.any (qVd L O (looks o)) with
   | true => match o.dst with
    | some d => deadRest T ops O rest ((d, bot) :: L)
    | none => deadRest T ops O rest L
   | false => match opD T ops L O o with
    | some (d, x) => deadRest T ops O rest ((d, x) :: L)
    | none => match litD T ops L O o with
     | some (d, x) => deadRest T ops O rest ((d, x) :: L)
     | none => match allocD T ops L O o with
      | some (d, x) => deadRest T ops ((d, x) :: O) rest ((d, .pt d [] 0) :: L)
      | none => false
section
variable {P : Program} {T : Tab} {ops : Array Oper} {cf : Oper -> Bool} {K : q1f -> St -> Prop} {O : List (Nat × Obj)}
theorem Step.dead {N : Value -> Prop} {c : Bool} {o : Oper} {L : List (Nat × AV)} (h : o.op.operands.toList.any (qVd L O (looks o)) = true) : Step P N c (mkSt L O) o ⟨bot, []⟩ := by
 obtain ⟨x, hm', hx⟩ := List.any_eq_true.1 h
 have hm : x ∈ o.op.operands := by simpa using hm'
 unfold qVd at hx
 split at hx
 ·rename_i id p off he
  simp only [Bool.and_eq_true] at hx
  obtain ⟨hl, hx⟩ := hx
  split at hx
  ·rename_i Ty sz y ho
   exact Step.deadO hm hl he (ho.trans (by rw [qOl hx]))
  ·cases hx
 ·exact Step.deadV hm (qOl hx)
theorem AOps.deadRest (hT : q0r P T) (hK : ∀ σ, NoRel σ -> K .normal σ) : ∀ (O : List (Nat × Obj)) (rest : List Oper) (L : List (Nat × AV)), NoRel ⟨fun _ => .dead, q0v O⟩ -> Sim.deadRest T ops O rest L = true -> AOps P ops cf K rest (mkSt L O)
 | O, [], L, hO, _ => hK _ hO
 | O, o :: rest, L, hO, h => by
  unfold Sim.deadRest at h
  split at h
  ·rename_i hg
   split at h
   ·rename_i d hd; exact AOps.off hd hg (AOps.deadRest hT hK O rest _ hO h)
   ·rename_i hd; exact AOps.off0 hd hg (AOps.deadRest hT hK O rest _ hO h)
  ·split at h
   ·rename_i hb
    simp only [Bool.and_eq_true] at hb
    split at h
    ·rename_i d hd; exact AOps.v hd hb.1 (Step.dead hb.2) (AOps.deadRest hT hK O rest _ hO h)
    ·rename_i hd
     refine AOps.eff hb.1 (Step.dead hb.2) ?_
     rw [hd]; exact AOps.deadRest hT hK O rest _ hO h
   ·split at h
    ·rename_i d x hx; exact AOps.pD hT hx (AOps.deadRest hT hK O rest _ hO h)
    ·split at h
     ·rename_i d x hx; exact AOps.litD hT hx (AOps.deadRest hT hK O rest _ hO h)
     ·split at h
      ·rename_i d x hx
       obtain ⟨h1, h2⟩ := AOps.allocD (cf := cf) (K := K) (rest := rest) hT hx
       refine h2 (AOps.deadRest hT hK _ rest _ ?_ h)
       obtain ⟨id, Ty, sz, hb⟩ := hO
       refine ⟨id, Ty, sz, ?_⟩
       have hne : Nat.beq id d = false := by
        cases he : Nat.beq id d with
        | false => rfl
        | true =>
         have e := Nat.eq_of_beq_eq_true he
         subst e
         have hb' : q0v O id = some (.box Ty sz bot) := hb
         rw [h1] at hb'; cases hb'
       show q0v ((d, x) :: O) id = _
       simp only [q0v, hne]
       exact hb
      ·cases h
end
@[reducible] def panK (o : Oper) (Q : q1f -> St -> Prop) : q1f -> St -> Prop
 | .panic v, σ => Q (.panic v) σ
 | _, σ => o.guard = none /\ ∃ x t u, o.op = .panic x /\ ev σ x = .dat (.v (.iface t u)) /\ qEi Q (.iface t u)
theorem AOps.wpP {P : Program} {B : Nat -> Nat -> Prop} {n : Nat} {F : Cx} {w0 : World} {ops : Array Oper} {cf : Oper -> Bool} {K : q1f -> St -> Prop} {o : Oper} (hd : qD9 n ops.toList = true) {R : Exit -> Act -> World -> Prop}
    (hN : ∀ v a' w', qEi K v -> WOk B w0 w' -> a'.defers = F.D -> R (.panic (pan v)) a' w') : ∀ (l : List Oper) (k : Nat) (σ : St) (a : Act) (w : World), (∀ j, (l ++ [o])[j]? = ops[k + j]?) -> Rel B F w0 n σ a w -> AOps P ops cf (panK o K) l σ ->
      wpOps P ops R (List.range' k (l.length + 1)) a w
  | [], k, σ, a, w, hl, ⟨g, r⟩, h => by
    have h0 : ops[k]? = some o := by simpa using (hl 0).symm
    obtain ⟨hg, x, t, u, ho, hx, hv⟩ := h
    rw [List.length_nil, List.range'_succ, wpOps_cons]
    unfold wpOp
    simp only [h0]
    have hw : Region.wanted o (yielded ops a.tmps) = true := by simp [Region.wanted, hg]
    rw [if_pos hw]
    refine .inl ?_
    have e := q0k (ev_rep r x) (by rw [hx]; rfl)
    unfold Oper.wp
    have hp : (Instr.panic (.iface t u)).run P w = .halt (.panic (.iface t u)) w := rfl
    have hrun : (execOp a.eval o).run P w = .halt (.panic (.iface t u)) w := by
      simp [execOp, ho, e, hp]
    rw [hrun, Oper.upon_panic]
    exact hN _ a w hv r.wok r.defers
  | o' :: l, k, σ, a, w, hl, r, h => by
    have h0 : ops[k]? = some o' := by simpa using (hl 0).symm
    obtain ⟨e, he, hrest⟩ := h
    rw [List.length_cons, List.range'_succ, wpOps_cons]
    refine qHd (N := qEi (panK o K)) h0 (fun d hd' => qFb hd (Array.mem_toList_iff.2 (Array.mem_of_getElem? h0)) d hd') r he hN (fun a' w' r' => ?_)
    exact AOps.wpP hd hN l (k + 1) _ a' w' (fun j => by have := hl (j + 1); simpa [Nat.add_assoc, Nat.add_comm 1 j] using this) r' hrest
theorem AWp.regionP {P : Program} {B : Nat -> Nat -> Prop} {n : Nat} {σ : St} {Q : q1f -> St -> Prop} {id : Nat} {ops : Array Oper} (o : Oper) (cf : Oper -> Bool) (hd : qD9 n ops.toList = true) (hl : ops.toList.getLast? = some o) (h : AOps P ops cf (panK o Q) ops.toList.dropLast σ) :
    AWp P B n (.region id ops false) σ Q := by
  intro F w0 a w r
  refine wp_region ?_
  have e : ops.toList.dropLast ++ [o] = ops.toList := by
    obtain ⟨l, hl'⟩ := List.getLast?_eq_some_iff.1 hl
    rw [hl', List.dropLast_concat]
  have := AOps.wpP (P := P) (B := B) (K := Q) (R := post B F w0 n Q) hd (fun v a' w' ⟨σ', hv⟩ h1 h2 => ⟨v, σ', rfl, hv, h1, h2⟩) ops.toList.dropLast 0 σ a w (fun j => by rw [e]; simp) r h
  have hlen : ops.toList.dropLast.length + 1 = ops.size := by
    have h1 : (ops.toList.dropLast ++ [o]).length = ops.toList.length := by rw [e]
    simpa using h1
  rw [hlen] at this
  simpa [List.range_eq_range'] using this
end Go.Sim
