/- The walk of choose, from the tables on. The walk of choose, whole. The contract of choose: any query. -/
import Derived.Test.YthdmfaepjemopaaGreatDoorQAX
namespace Go.Proofs.YthdmfaepjemopaaGreatDoor
open Go.RowKit

def foldE {α σ : Type} (f : σ → α → Except Int σ) : σ → List α → Except Int σ
  | s, [] => .ok s
  | s, x :: l => match f s x with
    | .error e => .error e
    | .ok s' => foldE f s' l
theorem foldE_snoc {α σ : Type} {f : σ → α → Except Int σ} {l : List α} {j : Nat} {y : α} {s s1 s2 : σ} (hy : l[j]? = some y) (h : foldE f s (l.take j) = .ok s1) (hp : f s1 y = .ok s2) : foldE f s (l.take (j + 1)) = .ok s2 := by
  induction l generalizing j s with
  | nil => cases hy
  | cons x l ih =>
    cases j with
    | zero =>
      cases hy
      rw [List.take_zero] at h
      cases h
      show foldE f _ [y] = _
      unfold foldE
      rw [hp]
      rfl
    | succ j =>
      rw [List.take_succ_cons] at h ⊢
      unfold foldE at h ⊢
      cases hx : f s x with
      | error e => rw [hx] at h; cases h
      | ok q => rw [hx] at h; exact ih hy h
theorem foldE_fail {α σ : Type} {f : σ → α → Except Int σ} {l : List α} {j : Nat} {y : α} {s s1 : σ} {e : Int} (hy : l[j]? = some y) (h : foldE f s (l.take j) = .ok s1) (hp : f s1 y = .error e) : foldE f s l = .error e := by
  induction l generalizing j s with
  | nil => cases hy
  | cons x l ih =>
    cases j with
    | zero =>
      cases hy
      rw [List.take_zero] at h
      cases h
      unfold foldE
      rw [hp]
    | succ j =>
      rw [List.take_succ_cons] at h
      unfold foldE at h ⊢
      cases hx : f s x with
      | error e => rw [hx] at h; cases h
      | ok q => rw [hx] at h; exact ih hy h
def fromL (p : ByteArray × ByteArray) : List Value := [.string p.1, .string p.2]
def fromR (ts : List (Tab × List Col)) (st : List Row × List Int × Int) (f : ByteArray × ByteArray) : Except Int (List Row × List Int × Int) := match findN (fun p => p.1.name) ts f.1 with
  | none => .error 130
  | some k => if st.1.any (fun r => sameN r.nm f.2) = true then .error 8 else match ts[k]? with
    | none => .error 130
    | some t => .ok (st.1 ++ [⟨f.2, t.1, t.2, st.2.2⟩], st.2.1 ++ [(k : Int)], st.2.2 + (t.2.length : Int))
theorem OwnL.sub {base : Nat} {L L' : List Rw} {W : World} (h : OwnL base L W) (f : Nat → Nat) (hf : ∀ k l, k < L'.length → l < L'.length → k ≠ l → f k ≠ f l) (hL : ∀ k, k < L'.length → L'[k]? = L[f k]?) : OwnL base L' W := by
  refine OwnF.re h f (fun k l r s hkl hr hs => hf k l (List.getElem?_eq_some_iff.1 hr).1 (List.getElem?_eq_some_iff.1 hs).1 hkl) (fun k r hr => ?_)
  have := hL k (List.getElem?_eq_some_iff.1 hr).1
  exact this.symm.trans hr
theorem OwnL.snoc {base : Nat} {L : List Rw} {W : World} (h : OwnL base L W) (hb : base ≤ W.heap.size) (e K : Nat) (us : List Value) (hl : us.length = K) : OwnL base (L ++ [⟨e, K, .slice (some ⟨W.heap.size, 0, none⟩) 1 1, 1, us⟩]) (W.alloc (.cells us.toArray e)) := by
  have := OwnF.add h (k := L.length) (List.getElem?_eq_none (Nat.le_refl _)) hb e K us hl
  refine OwnF.re this id (fun k l r s hkl _ _ => hkl) (fun k r hr => ?_)
  dsimp only [id]
  by_cases hk : k = L.length
  · subst hk
    rw [if_pos rfl]
    rw [List.getElem?_append_right (Nat.le_refl _), Nat.sub_self] at hr
    exact hr
  · rw [if_neg hk]
    have hlt := (List.getElem?_eq_some_iff.1 hr).1
    rw [List.length_append, List.length_singleton] at hlt
    rwa [List.getElem?_append_left (by omega)] at hr
theorem own_turn1 {base : Nat} {W : World} {a b c d e x : Rw} (h : OwnL base ([a, b, c, d, e] ++ [x]) W) : OwnL base ([d, e] ++ [a, b, c, x]) W :=
  h.sub (fun k => [3, 4, 0, 1, 2, 5].getD k 0) (fun k l hk hl hkl => (by decide : ∀ k, k < 6 → ∀ l, l < 6 → k ≠ l → ([3, 4, 0, 1, 2, 5] : List Nat).getD k 0 ≠ [3, 4, 0, 1, 2, 5].getD l 0) k hk l hl hkl) (fun k hk => by
    have hk : k < 6 := hk
    match k, hk with
    | 0, _ | 1, _ | 2, _ | 3, _ | 4, _ | 5, _ => rfl)
theorem own_turn2 {base : Nat} {W : World} {a b c d e x : Rw} (h : OwnL base ([d, e] ++ [a, b, c, x]) W) : OwnL base ([a, b, c] ++ [d, e, x]) W :=
  h.sub (fun k => [2, 3, 4, 0, 1, 5].getD k 0) (fun k l hk hl hkl => (by decide : ∀ k, k < 6 → ∀ l, l < 6 → k ≠ l → ([2, 3, 4, 0, 1, 5] : List Nat).getD k 0 ≠ [2, 3, 4, 0, 1, 5].getD l 0) k hk l hl hkl) (fun k hk => by
    have hk : k < 6 := hk
    match k, hk with
    | 0, _ | 1, _ | 2, _ | 3, _ | 4, _ | 5, _ => rfl)
theorem own_turn3 {base : Nat} {W : World} {a b c d e x : Rw} (h : OwnL base ([a, b, c] ++ [d, e, x]) W) : OwnL base [a, b, c, d, e] W :=
  h.sub id (fun k l _ _ hkl => hkl) (fun k hk => by
    have hk : k < 5 := hk
    match k, hk with
    | 0, _ | 1, _ | 2, _ | 3, _ | 4, _ => rfl)
theorem cm_start (w : World) (sr xr qr cr : Array Value) : CM w sr xr qr cr (((((w.alloc (.cells sr 25)).alloc (.cells xr 33)).alloc (.cells qryZ 48)).alloc (.cells qr 48)).alloc (.cells cr 86)) := by
  refine ⟨((((below1 w _).alloc (by simp) _).alloc (by simp <;> omega) _).alloc (by simp <;> omega) _).alloc (by simp <;> omega) _, ?_, ?_, ?_, ?_, ?_⟩
  · rw [heap_alloc_old _ _ (by simp <;> omega), heap_alloc_old _ _ (by simp <;> omega), heap_alloc_old _ _ (by simp <;> omega), heap_alloc_old _ _ (by simp)]; exact heap_alloc_new w _
  · rw [heap_alloc_old _ _ (by simp <;> omega), heap_alloc_old _ _ (by simp <;> omega), heap_alloc_old _ _ (by simp)]; exact alloc_at2 _ _ _ (by simp)
  · rw [heap_alloc_old _ _ (by simp <;> omega), heap_alloc_old _ _ (by simp)]; exact alloc_at2 _ _ _ (by simp)
  · rw [heap_alloc_old _ _ (by simp)]; exact alloc_at2 _ _ _ (by simp)
  · exact alloc_at2 _ _ _ (by simp)
theorem tab_find (ts : List (Tab × List Col)) (nm : ByteArray) {r : Int} (h : FirstIs (nameAt (ts.map Prod.fst) nm) (ts.map Prod.fst).length r) : (∃ k : Nat, k < ts.length ∧ findN (fun p => p.1.name) ts nm = some k ∧ r = k) ∨ (findN (fun p => p.1.name) ts nm = none ∧ r = -1) := by
  rw [List.length_map] at h
  exact first_find (nm := fun (p : Tab × List Col) => p.1.name) (fun j y hj => by unfold nameAt; rw [List.getElem?_map, hj]; rfl) h
theorem from_at {w : World} {A : Option Addr} {l : List (ByteArray × ByteArray)} (h : CellsAt w 2 A (l.map fromL)) {k : Nat} {y : ByteArray × ByteArray} (hk : l[k]? = some y) : ∃ b off, A = some ⟨b, off, none⟩ ∧ b < w.heap.size ∧ ∀ (i : Nat) (v : Value), (fromL y)[i]? = some v → w.cell? ⟨b, off + k * 2 + i, none⟩ = some v :=
  setl_at h (by rw [List.getElem?_map, hk]; rfl)
set_option maxRecDepth 100000 in
set_option maxHeartbeats 16000000 in
theorem seg0l (n : Nat) (w : World) (sA : Option Addr) (sn sk : Nat) (ia : Option Addr) (il ik : Nat) (ts : List (Tab × List Col)) (xr0 xr1 xr2 xr3 xr4 xr11 : Value) (star : Bool) (xA : Option Addr) (xq xc : Nat) (xs : List Ex) (fA : Option Addr) (fq fc : Nat) (fs : List (ByteArray × ByteArray)) (hA : Option Addr) (hq0 hc : Nat) (hs : List Ex) (uA : Option Addr) (uq uc : Nat) (us : List Ex) (oA : Option Addr) (q oc : Nat) (ol : List (Ex × Bool)) (lim : Int)
    (hn : 0 < n) (hsn : sn = ts.length) (hD : DeepAt w sA ts) (ht12 : ∀ p ∈ ts, p.2.length ≤ 12) (hfq : fq = fs.length) (hf4 : fq ≤ 4) (hfs : CellsAt w 2 fA (fs.map fromL)) (hxq : xq = xs.length) (hx30 : xq ≤ 30) (hxs : ExsAt w n xA xs) (hxm : ∀ x ∈ xs, SmallX n x)
    (hhq : hq0 = hs.length) (hh30 : hq0 ≤ 30) (hhs : ExsAt w n hA hs) (hhm : ∀ x ∈ hs, SmallX n x) (hhP : ∀ rows, ∀ x ∈ hs, ∀ p, bindR n rows false x = .ok p → AndTwo n p ∧ (partsR n p).length ≤ 1000)
    (huq : uq = us.length) (hu30 : uq ≤ 30) (hus : CellsAt w 10 uA (us.map exL))
    (hq : q = ol.length) (hq9 : q ≤ 12) (hol : CellsAt w 11 oA (ol.map ordL))
    (a : Act) (W : World) (hS : Slots w a)
    (hc0 : CM w #[.slice sA sn sk, .slice ia il ik] #[xr0, xr1, xr2, xr3, xr4, .bool star, .slice xA xq xc, .slice fA fq fc, .slice hA hq0 hc, .slice uA uq uc, .slice oA q oc, xr11] #[.slice none 0 0, .slice none 0 0, .int .i64 0, .slice none 0 0, .slice none 0 0, .bool false, .slice none 0 0, .slice none 0 0, .int .i64 lim] #[.slice none 0 0, .slice none 0 0, .slice none 0 0, .bool false, .bool false] W) :
    (chC 5).wp Tryz.prog (bodyPost Tryz.prog Tryz.f22 (ChooseO n w (match foldE (fromR ts) ([], [], 0) fs with | .error e => .error e | .ok (rows, tl, wd) => midR n rows tl wd hs us xs star ol lim))) a W := by
  obtain ⟨R, hRD⟩ : ∃ R, R = (match foldE (fromR ts) ([], [], 0) fs with | .error e => Except.error e | .ok (rows, tl, wd) => midR n rows tl wd hs us xs star ol lim) := ⟨_, rfl⟩
  rw [← hRD]
  have HSEG := Lib.hid (show ∀ rows tl wd va vt vg vq0 vq1 a W', foldE (fromR ts) ([], [], 0) fs = .ok (rows, tl, wd) → tl.length = rows.length → rows.length ≤ 4 → RowsOk w rows → (∀ r ∈ rows, r.cols.length ≤ 12) → Slots w a → CM w #[.slice sA sn sk, .slice ia il ik] #[xr0, xr1, xr2, xr3, xr4, .bool star, .slice xA xq xc, .slice fA fq fc, .slice hA hq0 hc, .slice uA uq uc, .slice oA q oc, xr11] #[vq0, vq1, .int .i64 wd, .slice none 0 0, .slice none 0 0, .bool false, .slice none 0 0, .slice none 0 0, .int .i64 lim] #[va, vt, vg, .bool false, .bool false] W' → OwnL (w.heap.size + 5) [⟨9, 1, va, rows.length, (rows.map fun r => strL r.nm).flatten⟩, ⟨65, 5, vt, rows.length, (rows.map fun r => tabL r.tab).flatten⟩, ⟨3, 1, vg, rows.length, (rows.map fun r => intL r.beg).flatten⟩, ⟨3, 1, vq0, rows.length, (tl.map intL).flatten⟩, ⟨3, 1, vq1, rows.length, (rows.map fun r => intL r.beg).flatten⟩] W' → (chC 6).wp Tryz.prog (bodyPost Tryz.prog Tryz.f22 (ChooseO n w R)) a W' from fun rows tl wd va vt vg vq0 vq1 a W' hfo htl hm hR hc12 hS hC hL => by
    have e : R = midR n rows tl wd hs us xs star ol lim := by rw [hRD, hfo]
    rw [e]
    obtain ⟨a1, k1, rfl, z1⟩ := own_setl (show W'.ownsRow (w.heap.size + 5) 9 1 va rows.length (rows.map fun r => strL r.nm).flatten from hL.1 0 _ rfl) (fun x hx => by obtain ⟨r, _, rfl⟩ := List.mem_map.1 hx; rfl) (by rw [List.length_map]) (okG w (.slice none 0 0)) (fun b hb _ => ⟨hb, fun e => by cases e⟩)
    obtain ⟨a2, k2, rfl, z2⟩ := own_setl (show W'.ownsRow (w.heap.size + 5) 65 5 vt rows.length (rows.map fun r => tabL r.tab).flatten from hL.1 1 _ rfl) (fun x hx => by obtain ⟨r, _, rfl⟩ := List.mem_map.1 hx; rfl) (by rw [List.length_map]) (okG w (.slice none 0 0)) (fun b hb _ => ⟨hb, fun e => by cases e⟩)
    obtain ⟨a3, k3, rfl, z3⟩ := own_setl (show W'.ownsRow (w.heap.size + 5) 3 1 vg rows.length (rows.map fun r => intL r.beg).flatten from hL.1 2 _ rfl) (fun x hx => by obtain ⟨r, _, rfl⟩ := List.mem_map.1 hx; rfl) (by rw [List.length_map]) (okG w (.slice none 0 0)) (fun b hb _ => ⟨hb, fun e => by cases e⟩)
    obtain ⟨a4, k4, rfl, z4⟩ := own_setl (show W'.ownsRow (w.heap.size + 5) 3 1 vq0 rows.length (tl.map intL).flatten from hL.1 3 _ rfl) (fun x hx => by obtain ⟨r, _, rfl⟩ := List.mem_map.1 hx; rfl) (by rw [List.length_map]; exact htl.symm) (okG w (.slice none 0 0)) (fun b hb _ => ⟨hb, fun e => by cases e⟩)
    obtain ⟨a5, k5, rfl, z5⟩ := own_setl (show W'.ownsRow (w.heap.size + 5) 3 1 vq1 rows.length (rows.map fun r => intL r.beg).flatten from hL.1 4 _ rfl) (fun x hx => by obtain ⟨r, _, rfl⟩ := List.mem_map.1 hx; rfl) (by rw [List.length_map]) (okG w (.slice none 0 0)) (fun b hb _ => ⟨hb, fun e => by cases e⟩)
    rw [← htl] at hC
    have hC' : CM w #[.slice sA sn sk, .slice ia il ik] #[xr0, xr1, xr2, xr3, xr4, .bool star, .slice xA xq xc, .slice fA fq fc, .slice hA hq0 hc, .slice uA uq uc, .slice oA q oc, xr11] #[.slice a4 tl.length k4, .slice a5 rows.length k5, .int .i64 wd, .slice none 0 0, .slice none 0 0, .bool false, .slice none 0 0, .slice none 0 0, .int .i64 lim] #[.slice a1 rows.length k1, .slice a2 rows.length k2, .slice a3 rows.length k3, .bool false, .bool false] W' := by rw [← htl]; exact hC
    exact seg1 n a1 a2 a3 rows a4 tl a5 w #[.slice sA sn sk, .slice ia il ik] xr0 xr1 xr2 xr3 xr4 (.slice fA fq fc) xr11 star xA xq xc xs hA hq0 hc hs uA uq uc us oA q oc ol k4 k5 k1 k2 k3 wd lim hn hxq hx30 hxs hxm hhq hh30 hhs hhm (hhP rows) huq hu30 hus hq hq9 hol hR hm hc12 a W' hS ⟨hC', World.ownsRow_nil _ _ _ _, z1, z2, z3, z4, z5, Setl.nil _ _ _ _, ⟨rfl, fun i x q h => by cases h⟩, Setl.nil _ _ _ _, Setl.nil _ _ _ _, ⟨rfl, fun i x q h => by cases h⟩⟩)
  have HRN := Lib.hid (show ∀ (j : Nat) (y : ByteArray × ByteArray) st, foldE (fromR ts) ([], [], 0) (fs.take j) = .ok st → fs[j]? = some y → ∀ er, fromR ts st y = .error er → R = .error er from fun j y st h1 h2 er h3 => by rw [hRD, foldE_fail h2 h1 h3])
  have HFS := Lib.hid hfs
  have HFQ := Lib.hid hfq
  have HSN := Lib.hid hsn
  have HD := Lib.hid hD
  have HT12 := Lib.hid ht12
  have HC0 := Lib.hid hc0
  have xb7 : W.cell? ⟨w.heap.size + 1, 7, none⟩ = some (.slice fA fq fc) := cell_of_row _ _ 7 _ _ _ hc0.xb
  have HCY := fun w => check_yes 130 w
  have HCN := fun w => check_no 130 w
  have HEY := fun w => check_yes 8 w
  have HEN := fun w => check_no 8 w
  clear hRD hxs hxm hxq hhq hhs hhm hhP huq hus hq hol hfs hfq hsn hD ht12 hc0
  obtain ⟨u, hu, hug⟩ := open288 hS.size
  have p2 := hS.s2; have p3 := hS.s3; have p4 := hS.s4; have p5 := hS.s5; have p6 := hS.s6
  have hdf := hS.df
  rw [hug _ (by omega)] at p2 p3 p4 p5 p6
  obtain ⟨tm, df⟩ := a
  dsimp only at hu hdf
  subst hu hdf
  clear hS hug
  rw [p2, p3, p4, p5, p6]
  clear p2 p3 p4 p5 p6
  conv => arg 2; whnf
  refine wp_seq_k fun K hK => ?_
  have HK := Lib.hid (show ∀ a w', (chC 6).wp Tryz.prog (bodyPost Tryz.prog Tryz.f22 (ChooseO n w R)) a w' → K a w' from hK)
  clear hK
  go_wp2_with fail
  clear xb7
  refine wp_loop (fun a' wr => Slots w a' ∧ a'.tmps.getD 61 undef = .slice fA fq fc ∧ a'.tmps.getD 62 undef = .int .i64 fq ∧ ∃ (j : Nat) (rows : List Row) (tl : List Int) (wd : Int) (va vt vg vq0 vq1 : Value), j ≤ fq ∧ a'.tmps.getD 63 undef = .int .i64 j ∧ tl.length = rows.length ∧ rows.length = j ∧ 0 ≤ wd ∧ wd ≤ 12 * j ∧ Hid (foldE (fromR ts) ([], [], 0) (fs.take j) = .ok (rows, tl, wd)) ∧ Hid (CM w #[.slice sA sn sk, .slice ia il ik] #[xr0, xr1, xr2, xr3, xr4, .bool star, .slice xA xq xc, .slice fA fq fc, .slice hA hq0 hc, .slice uA uq uc, .slice oA q oc, xr11] #[vq0, vq1, .int .i64 wd, .slice none 0 0, .slice none 0 0, .bool false, .slice none 0 0, .slice none 0 0, .int .i64 lim] #[va, vt, vg, .bool false, .bool false] wr) ∧ Hid (OwnL (w.heap.size + 5) [⟨9, 1, va, rows.length, (rows.map fun r => strL r.nm).flatten⟩, ⟨65, 5, vt, rows.length, (rows.map fun r => tabL r.tab).flatten⟩, ⟨3, 1, vg, rows.length, (rows.map fun r => intL r.beg).flatten⟩, ⟨3, 1, vq0, rows.length, (tl.map intL).flatten⟩, ⟨3, 1, vq1, rows.length, (rows.map fun r => intL r.beg).flatten⟩] wr) ∧ Hid (RowsOk w rows ∧ ∀ r ∈ rows, r.cols.length ≤ 12)) (fun a' _ => fq - (intOf (a'.tmps.getD 63 undef)).toNat) ?start ?round
  case start =>
    refine ⟨⟨?_, ?_, ?_, ?_, ?_, ?_, ?_⟩, ?_, ?_, 0, [], [], 0, .slice none 0 0, .slice none 0 0, .slice none 0 0, .slice none 0 0, .slice none 0 0, Nat.zero_le _, ?_, rfl, rfl, by omega, by omega, Lib.hid rfl, HC0, Lib.hid ?_, Lib.hid (And.intro (show RowsOk w [] from fun r hr => by cases hr) (fun r hr => by cases hr))⟩
    all_goals first | rfl | skip
    refine ⟨fun k r hr => ?_, fun k l r s _ hr hs b hb => ?_⟩
    · rcases five_cases hr with ⟨_, rfl⟩ | ⟨_, rfl⟩ | ⟨_, rfl⟩ | ⟨_, rfl⟩ | ⟨_, rfl⟩ <;> exact World.ownsRow_nil _ _ _ _
    · rcases five_cases hr with ⟨_, rfl⟩ | ⟨_, rfl⟩ | ⟨_, rfl⟩ | ⟨_, rfl⟩ | ⟨_, rfl⟩ <;> cases hb
  case round =>
    clear HC0
    rintro a wr ⟨hS, h61, h62, j, rows, tl, wd, va, vt, vg, vq0, vq1, hj, h63, htl, hrj, hw0, hw1, HE, HC, HL, HR⟩
    have HTL := Lib.hid htl
    have HRJ := Lib.hid hrj
    clear htl hrj
    obtain ⟨u, hu, hug⟩ := open288 hS.size
    have p2 := hS.s2; have p3 := hS.s3; have p4 := hS.s4; have p5 := hS.s5; have p6 := hS.s6
    have hdf := hS.df
    rw [hug _ (by omega)] at p2 p3 p4 p5 p6 h61 h62 h63
    obtain ⟨tm, df⟩ := a
    dsimp only at hu hdf
    subst hu hdf
    clear hS hug
    rw [p2, p3, p4, p5, p6, h61, h62, h63]
    clear p2 p3 p4 p5 p6 h61 h62 h63
    by_cases hjq : j < fq
    · have hjn : ((j : Int) < (fq : Int)) = True := eq_true (by omega)
      obtain ⟨⟨ft, fas⟩, hy⟩ : ∃ y, fs[j]? = some y := ⟨_, List.getElem?_eq_getElem (by have := HFQ.out; omega)⟩
      obtain ⟨fb0, fo0, rfl, hfb, hyc⟩ := from_at HFS.out hy
      have HYJ := Lib.hid hy
      obtain ⟨av, ac, rfl⟩ := own_slice (show wr.ownsRow (w.heap.size + 5) 9 1 va rows.length (rows.map fun r => strL r.nm).flatten from HL.out.1 0 _ rfl)
      have t0 : wr.cell? ⟨fb0, fo0 + j * 2, none⟩ = some (.string ft) := cell_kept (hyc 0 _ rfl) HC.out.below
      have t1 : wr.cell? ⟨fb0, fo0 + j * 2 + 1, none⟩ = some (.string fas) := cell_kept (hyc 1 _ rfl) HC.out.below
      clear hyc hy hfb
      go_upto_region 8 with (fail)
      have HC1 := Lib.hid (HC.out.keep (below1 wr (.cells #[.string ft, .string fas] 60)))
      have HL1 := Lib.hid (HL.out.snoc HC.out.lt 60 2 [.string ft, .string fas] rfl)
      have HB1 := Lib.hid (heap_alloc_new wr (.cells #[.string ft, .string fas] 60))
      obtain ⟨fb, hfb⟩ : ∃ b, b = wr.heap.size := ⟨_, rfl⟩
      rw [← hfb] at HB1 HL1 ⊢
      clear hfb t0 t1
      generalize wr.alloc (.cells #[.string ft, .string fas] 60) = w3 at HC1 HL1 HB1 ⊢
      have s0 : w3.cell? ⟨w.heap.size, 0, none⟩ = some (.slice sA sn sk) := cell_of_row _ _ 0 _ _ _ HC1.out.sb
      have s1 : w3.cell? ⟨w.heap.size, 1, none⟩ = some (.slice ia il ik) := cell_of_row _ _ 1 _ _ _ HC1.out.sb
      have x0 : w3.cell? ⟨fb, 0, none⟩ = some (.string ft) := cell_of_row _ _ 0 _ _ _ HB1.out
      have HTB := Lib.hid (show Calls Tryz.prog 33 #[.agg #[.slice sA sn sk, .slice ia il ik], .string ft] w3 (fun e w' => ∃ r : Int, e = .returned (.int .i64 r) ∧ ((∃ k : Nat, k < ts.length ∧ findN (fun p => p.1.name) ts ft = some k ∧ r = k) ∨ (findN (fun p => p.1.name) ts ft = none ∧ r = -1)) ∧ Below w3.heap.size w3 w') from by
        have := table_any sA sk (ts.map Prod.fst) ia il ik ft w3 (CellsAt.keep HC1.out.below HD.out.1)
        rw [List.length_map, ← HSN.out] at this
        refine this.mono fun e w' ⟨r, h1, h2, h3⟩ => ⟨r, h1, tab_find ts ft ?_, h3⟩
        rw [List.length_map, ← HSN.out]
        exact h2)
      go_upto_region 9 with (first
        | (go_at_call 33; (with_reducible refine HTB.out.mono ?_); rintro e w4 ⟨r, rfl, hr, hB4⟩
           have HC4 := Lib.hid (HC1.out.keep hB4)
           have HL4 := Lib.hid (show OwnL (w.heap.size + 5) _ w4 from OwnF.keep HL1.out hB4)
           have HB4 := Lib.hid ((hB4.block fb (heap_lt HB1.out)).trans HB1.out)
           clear hB4)
        | fail)
      clear s0 s1 x0
      rcases hr with ⟨k, hk, hfind, rfl⟩ | ⟨hfind, rfl⟩
      · have hkn : ((0 : Int) ≤ (k : Int)) = True := eq_true (by omega)
        obtain ⟨t, ht⟩ : ∃ t, ts[k]? = some t := ⟨_, List.getElem?_eq_getElem hk⟩
        have HFI := Lib.hid (show ∀ st : List Row × List Int × Int, fromR ts st (ft, fas) = if st.1.any (fun r => sameN r.nm fas) = true then .error 8 else .ok (st.1 ++ [⟨fas, t.1, t.2, st.2.2⟩], st.2.1 ++ [(k : Int)], st.2.2 + (t.2.length : Int)) from fun st => by
          unfold fromR
          dsimp only
          rw [hfind]
          dsimp only
          rw [ht])
        have HTK := Lib.hid ht
        have HKS := Lib.hid (show k < sn by rw [HSN.out]; exact hk)
        have hDk := HD.out.2 t (List.mem_of_getElem? ht)
        have HT12k := Lib.hid (HT12.out t (List.mem_of_getElem? ht))
        obtain ⟨tb, tf, rfl, _, htc, hcn, hcols⟩ := deep_at HD.out ht
        have HTC := Lib.hid htc
        have HDK := Lib.hid hDk
        clear hDk htc hcn hcols
        have HST := Lib.hid (show StrsAt w4 av (rows.map Row.nm) from by
          obtain ⟨A', c', e', hC', _⟩ := own_setl (show w4.ownsRow (w.heap.size + 5) 9 1 (.slice av rows.length ac) rows.length (rows.map fun r => strL r.nm).flatten from HL4.out.1 0 _ rfl) (fun x hx => by obtain ⟨r, _, rfl⟩ := List.mem_map.1 hx; rfl) (by rw [List.length_map]) (fun _ => True) (fun _ _ _ => trivial)
          cases e'
          show CellsAt w4 1 av ((rows.map Row.nm).map fun s => [.string s])
          rw [List.map_map]
          exact hC')
        have HAS := Lib.hid (show Calls Tryz.prog 34 #[.slice av rows.length ac, .string fas] w4 (RetV (.bool (rows.any fun r => sameN r.nm fas)) w4) from by
          have := has_strs av ac (rows.map Row.nm) fas w4 HST.out
          rwa [List.length_map, List.any_map] at this)
        clear hfind ht hk HST
        have c0 := cell_of_row _ _ 0 _ _ _ HC4.out.sc
        have x1 : w4.cell? ⟨fb, 1, none⟩ = some (.string fas) := cell_of_row _ _ 1 _ _ _ HB4.out
        cases hh : (rows.any fun r => sameN r.nm fas) with
        | true =>
          obtain rfl : R = .error 8 := HRN.out j (ft, fas) _ HE.out HYJ.out 8 (by rw [HFI.out]; exact if_pos hh)
          rw [hh] at HAS
          clear hh
          go_wp2_with (first
            | (go_at_call 24; first
               | (with_reducible refine (HCY _).mono ?_; rintro e w' ⟨rfl, rfl⟩)
               | (with_reducible refine (HEN _).mono ?_; rintro e w' ⟨rfl, rfl⟩))
            | (go_at_call 34; (with_reducible refine HAS.out.mono ?_); rintro e w5 ⟨rfl, hB5⟩
               have HC5 := Lib.hid (HC4.out.keep hB5)
               clear hB5)
            | fail)
          exact ⟨rfl, HC5.out.below, rfl⟩
        | false =>
          have HR2 := Lib.hid (foldE_snoc HYJ.out HE.out ((HFI.out _).trans (if_neg (by rw [hh]; decide))))
          rw [hh] at HAS
          clear hh
          go_upto_region 11 with (first
            | (go_at_call 24; first
               | (with_reducible refine (HCY _).mono ?_; rintro e w' ⟨rfl, rfl⟩)
               | (with_reducible refine (HEY _).mono ?_; rintro e w' ⟨rfl, rfl⟩))
            | (go_at_call 34; (with_reducible refine HAS.out.mono ?_); rintro e w5 ⟨rfl, hB5⟩
               have HC5 := Lib.hid (HC4.out.keep hB5)
               have HL5 := Lib.hid (show OwnL (w.heap.size + 5) _ w5 from OwnF.keep HL4.out hB5)
               clear hB5)
            | fail)
          clear c0 x1
          have HLA := Lib.hid (own_turn1 HL5.out)
          refine reg11 w _ _ _ vq0 vq1 _ _ _ _ _ _ wd (k : Int) rows.length (tl.map intL).flatten (rows.map fun r => intL r.beg).flatten _ w5 _ ?z1 ?z2 ?z3 HC5.out HLA.out (by have := HRJ.out; omega) (fun a1 W1 A0 k0 A1 k1 hd1 hz1 hs1 hc1 hl1 => ?_)
          case z1 => rfl
          case z2 => rfl
          case z3 => rfl
          have HC6 := Lib.hid hc1
          have HL6 := Lib.hid (own_turn2 hl1)
          have g8 : a1.tmps.getD 8 undef = .pointer (some ⟨fb, 0, none⟩) := (hs1 8 (by omega)).trans rfl
          have g9 : a1.tmps.getD 9 undef = .int .i64 (k : Int) := (hs1 9 (by omega)).trans rfl
          have g2 : a1.tmps.getD 2 undef = .pointer (some ⟨w.heap.size, 0, none⟩) := (hs1 2 (by omega)).trans rfl
          have g3 : a1.tmps.getD 3 undef = .pointer (some ⟨w.heap.size + 1, 0, none⟩) := (hs1 3 (by omega)).trans rfl
          have g4 : a1.tmps.getD 4 undef = .pointer (some ⟨w.heap.size + 2, 0, none⟩) := (hs1 4 (by omega)).trans rfl
          have g5 : a1.tmps.getD 5 undef = .pointer (some ⟨w.heap.size + 3, 0, none⟩) := (hs1 5 (by omega)).trans rfl
          have g6 : a1.tmps.getD 6 undef = .pointer (some ⟨w.heap.size + 4, 0, none⟩) := (hs1 6 (by omega)).trans rfl
          have g61 : a1.tmps.getD 61 undef = .slice (some ⟨fb0, fo0, none⟩) fq fc := (hs1 61 (by omega)).trans rfl
          have g62 : a1.tmps.getD 62 undef = .int .i64 fq := (hs1 62 (by omega)).trans rfl
          have g63 : a1.tmps.getD 63 undef = .int .i64 j := (hs1 63 (by omega)).trans rfl
          have hdf1 : a1.defers = [] := hd1.trans rfl
          clear hs1 hd1 hc1 hl1 HL5 HLA HC5
          go_upto_region 12 with (fail)
          refine reg12 w _ tb tf sn sk _ (.slice av rows.length ac) vt vg _ _ _ _ _ _ _ _ wd rows.length k fb ft fas t.1 (rows.map fun r => strL r.nm).flatten (rows.map fun r => tabL r.tab).flatten (rows.map fun r => intL r.beg).flatten _ W1 a1 hz1 g2 g5 g6 g8 g9 HTC.out HKS.out ?hbx HC6.out HL6.out (by have := HRJ.out; omega) (fun a2 W2 B0 l0 B1 l1 B2 l2 hd2 hz2 hs2 hc2 hl2 => ?_)
          case hbx => simp
          have HC7 := Lib.hid hc2
          have HL7 := Lib.hid (own_turn3 hl2)
          have f2 := (hs2 2 (by omega)).trans g2
          have f3 := (hs2 3 (by omega)).trans g3
          have f4 := (hs2 4 (by omega)).trans g4
          have f5 := (hs2 5 (by omega)).trans g5
          have f6 := (hs2 6 (by omega)).trans g6
          have f61 := (hs2 61 (by omega)).trans g61
          have f62 := (hs2 62 (by omega)).trans g62
          have f63 := (hs2 63 (by omega)).trans g63
          have f9 := (hs2 9 (by omega)).trans g9
          have hdf2 : a2.defers = [] := hd2.trans hdf1
          clear hs2 hd2 hc2 hl2 g8 g9 g2 g3 g4 g5 g6 g61 g62 g63 hdf1 hz1 HL6 HC6
          go_upto_region 13 with (fail)
          refine reg13 w _ _ tb tf sn sk _ _ _ _ _ _ _ _ _ wd k t.1 _ W2 a2 hz2 f2 f5 f9 HTC.out HKS.out (by have := HRJ.out; omega) (by have := HDK.out.2.1; have := HT12k.out; omega) HC7.out HL7.out (fun a3 W3 hd3 hz3 hs3 hc3 hl3 => ?_)
          have HC8 := Lib.hid hc3
          have HL8 := Lib.hid hl3
          have e2 := (hs3 2 (by omega)).trans f2
          have e3 := (hs3 3 (by omega)).trans f3
          have e4 := (hs3 4 (by omega)).trans f4
          have e5 := (hs3 5 (by omega)).trans f5
          have e6 := (hs3 6 (by omega)).trans f6
          have e61 := (hs3 61 (by omega)).trans f61
          have e62 := (hs3 62 (by omega)).trans f62
          have e63 := (hs3 63 (by omega)).trans f63
          have hdf3 : a3.defers = [] := hd3.trans hdf2
          clear hs3 hd3 hc3 hl3 f9 f2 f3 f4 f5 f6 f61 f62 f63 hdf2 hz2 HL7 HC7
          go_upto_region 14 with (fail)
          obtain ⟨u2, hu2, hug2⟩ := open288 hz3
          rw [hug2 _ (by omega)] at e2 e3 e4 e5 e6 e61 e62 e63
          obtain ⟨tm3, df3⟩ := a3
          dsimp only at hu2 hdf3
          subst hu2 hdf3
          clear hug2 hz3
          rw [e2, e3, e4, e5, e6, e61, e62, e63]
          clear e2 e3 e4 e5 e6 e61 e62 e63
          go_wp2_with fail
          refine ⟨⟨⟨?_, ?_, ?_, ?_, ?_, ?_, ?_⟩, ?_, ?_, j + 1, rows ++ [⟨fas, t.1, t.2, wd⟩], tl ++ [(k : Int)], wd + (t.2.length : Int), .slice B0 (rows.length + 1) l0, .slice B1 (rows.length + 1) l1, .slice B2 (rows.length + 1) l2, .slice A0 (rows.length + 1) k0, .slice A1 (rows.length + 1) k1, by omega, ?_, by rw [List.length_append, List.length_append, HTL.out]; rfl, by rw [List.length_append, HRJ.out]; rfl, by omega, by have := HT12k.out; omega, HR2, Lib.hid ?_, Lib.hid ?_, Lib.hid ⟨?_, ?_⟩⟩, ?_⟩
          all_goals first | rfl | skip
          · have := HC8.out
            rw [HDK.out.2.1] at this
            exact this
          · have := HL8.out
            rw [List.map_append, List.map_append, List.map_append, List.map_append, List.flatten_append, List.flatten_append, List.flatten_append, List.flatten_append, List.length_append]
            simp only [List.map_cons, List.map_nil, List.flatten_cons, List.flatten_nil, List.append_nil, List.length_singleton]
            exact this
          · intro r hr
            rcases List.mem_append.1 hr with h | h
            · exact HR.out.1 r h
            · obtain rfl : r = ⟨fas, t.1, t.2, wd⟩ := by simpa using h
              exact ⟨HDK.out, hw0, by show wd ≤ 100000; omega, by have := HT12k.out; show t.2.length ≤ 100000; omega⟩
          · intro r hr
            rcases List.mem_append.1 hr with h | h
            · exact HR.out.2 r h
            · obtain rfl : r = ⟨fas, t.1, t.2, wd⟩ := by simpa using h
              exact HT12k.out
          · show fq - (intOf (.int .i64 _)).toNat < fq - (intOf (.int .i64 _)).toNat
            simp [intOf] <;> omega
      · obtain rfl : R = .error 130 := HRN.out j (ft, fas) _ HE.out HYJ.out 130 (by unfold fromR; dsimp only; rw [hfind])
        clear hfind
        go_wp2_with (first
          | (go_at_call 24; (with_reducible refine (HCN _).mono ?_); rintro e w' ⟨rfl, rfl⟩)
          | fail)
        exact ⟨rfl, HC4.out.below, rfl⟩
    · obtain rfl : j = fq := by omega
      have hjn : ((j : Int) < (j : Int)) = False := eq_false (by omega)
      have hT := HE.out
      rw [List.take_of_length_le (by have := HFQ.out; omega)] at hT
      have HT := Lib.hid hT
      clear hT
      go_wp2_with fail
      refine HK.out _ _ (HSEG.out rows tl wd va vt vg vq0 vq1 _ _ HT.out HTL.out (by have := HRJ.out; omega) HR.out.1 HR.out.2 ⟨?_, ?_, ?_, ?_, ?_, ?_, ?_⟩ HC.out HL.out) <;> rfl
end Go.Proofs.YthdmfaepjemopaaGreatDoor
namespace Go.Proofs.YthdmfaepjemopaaGreatDoor
open Go.RowKit

set_option maxRecDepth 100000 in
set_option maxHeartbeats 16000000 in
theorem choose_f1 (n : Nat) (w : World) (sA : Option Addr) (sn sk : Nat) (ia : Option Addr) (il ik : Nat) (k : Int) (xtab : ByteArray) (ya za va : Option Addr) (yn yc zn zc vn vc : Nat) (xA : Option Addr) (xq xc : Nat) (fA : Option Addr) (fq fc : Nat) (hA : Option Addr) (hq0 hc : Nat) (uA : Option Addr) (uq uc : Nat) (oA : Option Addr) (q oc : Nat) (lim : Int)  (star : Bool) (c1 : (k == 1) = false) : Calls Tryz.prog 22 #[.agg #[.slice sA sn sk, .slice ia il ik], .agg #[.int .i64 k, .string xtab, .slice ya yn yc, .slice za zn zc, .slice va vn vc, .bool star, .slice xA xq xc, .slice fA fq fc, .slice hA hq0 hc, .slice uA uq uc, .slice oA q oc, .int .i64 lim]] w (ChooseO n w (.error 7)) := by
  have HCN := fun w => check_no 7 w
  have HCY := fun w => check_yes 7 w
  go_enter Tryz.func22, Tryz.ntmps22
  go_wp2_with (first
    | (go_at_call 24; first
       | (with_reducible refine (HCN _).mono ?_; rintro e w' ⟨rfl, rfl⟩)
       | (with_reducible refine (HCY _).mono ?_; rintro e w' ⟨rfl, rfl⟩))
    | fail)
  exact ⟨rfl, by go_grown, rfl⟩
set_option maxRecDepth 100000 in
set_option maxHeartbeats 16000000 in
theorem choose_f2 (n : Nat) (w : World) (sA : Option Addr) (sn sk : Nat) (ia : Option Addr) (il ik : Nat) (xtab : ByteArray) (ya za va : Option Addr) (yn yc zn zc vn vc : Nat) (xA : Option Addr) (xq xc : Nat) (fA : Option Addr) (fq fc : Nat) (hA : Option Addr) (hq0 hc : Nat) (uA : Option Addr) (uq uc : Nat) (oA : Option Addr) (q oc : Nat) (lim : Int) (star : Bool) (c2 : ((0 : Int) < (fq : Int)) = False) : Calls Tryz.prog 22 #[.agg #[.slice sA sn sk, .slice ia il ik], .agg #[.int .i64 1, .string xtab, .slice ya yn yc, .slice za zn zc, .slice va vn vc, .bool star, .slice xA xq xc, .slice fA fq fc, .slice hA hq0 hc, .slice uA uq uc, .slice oA q oc, .int .i64 lim]] w (ChooseO n w (.error 7)) := by
  have c2n : (0 < fq) = False := by rw [← c2]; simp
  have HCN := fun w => check_no 7 w
  have HCY := fun w => check_yes 7 w
  go_enter Tryz.func22, Tryz.ntmps22
  go_wp2_with (first
    | (go_at_call 24; first
       | (with_reducible refine (HCN _).mono ?_; rintro e w' ⟨rfl, rfl⟩)
       | (with_reducible refine (HCY _).mono ?_; rintro e w' ⟨rfl, rfl⟩))
    | fail)
  exact ⟨rfl, by go_grown, rfl⟩
set_option maxRecDepth 100000 in
set_option maxHeartbeats 16000000 in
theorem choose_f3 (n : Nat) (w : World) (sA : Option Addr) (sn sk : Nat) (ia : Option Addr) (il ik : Nat) (xtab : ByteArray) (ya za va : Option Addr) (yn yc zn zc vn vc : Nat) (xA : Option Addr) (xq xc : Nat) (fA : Option Addr) (fq fc : Nat) (hA : Option Addr) (hq0 hc : Nat) (uA : Option Addr) (uq uc : Nat) (oA : Option Addr) (q oc : Nat) (lim : Int) (star : Bool) (c2 : ((0 : Int) < (fq : Int)) = True) (c3 : ((hq0 : Int) ≤ 1) = False) : Calls Tryz.prog 22 #[.agg #[.slice sA sn sk, .slice ia il ik], .agg #[.int .i64 1, .string xtab, .slice ya yn yc, .slice za zn zc, .slice va vn vc, .bool star, .slice xA xq xc, .slice fA fq fc, .slice hA hq0 hc, .slice uA uq uc, .slice oA q oc, .int .i64 lim]] w (ChooseO n w (.error 7)) := by
  have c2n : (0 < fq) = True := by rw [← c2]; simp
  have c3n : (hq0 ≤ 1) = False := by rw [← c3, eq_iff_iff]; omega
  have HCN := fun w => check_no 7 w
  have HCY := fun w => check_yes 7 w
  go_enter Tryz.func22, Tryz.ntmps22
  go_wp2_with (first
    | (go_at_call 24; first
       | (with_reducible refine (HCN _).mono ?_; rintro e w' ⟨rfl, rfl⟩)
       | (with_reducible refine (HCY _).mono ?_; rintro e w' ⟨rfl, rfl⟩))
    | fail)
  exact ⟨rfl, by go_grown, rfl⟩
set_option maxRecDepth 100000 in
set_option maxHeartbeats 16000000 in
theorem choose_f4a (n : Nat) (w : World) (sA : Option Addr) (sn sk : Nat) (ia : Option Addr) (il ik : Nat) (xtab : ByteArray) (ya za va : Option Addr) (yn yc zn zc vn vc : Nat) (xA : Option Addr) (xq xc : Nat) (fA : Option Addr) (fq fc : Nat) (hA : Option Addr) (hq0 hc : Nat) (uA : Option Addr) (uq uc : Nat) (oA : Option Addr) (q oc : Nat) (lim : Int) (c2 : ((0 : Int) < (fq : Int)) = True) (c3 : ((hq0 : Int) ≤ 1) = True) (c4 : ((xq : Int) == 0) = false) : Calls Tryz.prog 22 #[.agg #[.slice sA sn sk, .slice ia il ik], .agg #[.int .i64 1, .string xtab, .slice ya yn yc, .slice za zn zc, .slice va vn vc, .bool true, .slice xA xq xc, .slice fA fq fc, .slice hA hq0 hc, .slice uA uq uc, .slice oA q oc, .int .i64 lim]] w (ChooseO n w (.error 7)) := by
  have c2n : (0 < fq) = True := by rw [← c2]; simp
  have c3n : (hq0 ≤ 1) = True := by rw [← c3, eq_iff_iff]; omega
  have c4n : (xq == 0) = false := by rw [← c4, Bool.eq_iff_iff, beq_iff_eq, beq_iff_eq]; omega
  have c4m : (xq = 0) = False := by exact eq_false (beq_eq_false_iff_ne.1 c4n)
  have HCN := fun w => check_no 7 w
  have HCY := fun w => check_yes 7 w
  go_enter Tryz.func22, Tryz.ntmps22
  go_wp2_with (first
    | (go_at_call 24; first
       | (with_reducible refine (HCN _).mono ?_; rintro e w' ⟨rfl, rfl⟩)
       | (with_reducible refine (HCY _).mono ?_; rintro e w' ⟨rfl, rfl⟩))
    | fail)
  exact ⟨rfl, by go_grown, rfl⟩
set_option maxRecDepth 100000 in
set_option maxHeartbeats 16000000 in
theorem choose_f4b (n : Nat) (w : World) (sA : Option Addr) (sn sk : Nat) (ia : Option Addr) (il ik : Nat) (xtab : ByteArray) (ya za va : Option Addr) (yn yc zn zc vn vc : Nat) (xA : Option Addr) (xq xc : Nat) (fA : Option Addr) (fq fc : Nat) (hA : Option Addr) (hq0 hc : Nat) (uA : Option Addr) (uq uc : Nat) (oA : Option Addr) (q oc : Nat) (lim : Int) (c2 : ((0 : Int) < (fq : Int)) = True) (c3 : ((hq0 : Int) ≤ 1) = True) (c4 : ((xq : Int) == 0) = true) : Calls Tryz.prog 22 #[.agg #[.slice sA sn sk, .slice ia il ik], .agg #[.int .i64 1, .string xtab, .slice ya yn yc, .slice za zn zc, .slice va vn vc, .bool false, .slice xA xq xc, .slice fA fq fc, .slice hA hq0 hc, .slice uA uq uc, .slice oA q oc, .int .i64 lim]] w (ChooseO n w (.error 7)) := by
  have c2n : (0 < fq) = True := by rw [← c2]; simp
  have c3n : (hq0 ≤ 1) = True := by rw [← c3, eq_iff_iff]; omega
  have c4n : (xq == 0) = true := by rw [← c4, Bool.eq_iff_iff, beq_iff_eq, beq_iff_eq]; omega
  have c4m : (xq = 0) = True := by exact eq_true (beq_iff_eq.1 c4n)
  have HCN := fun w => check_no 7 w
  have HCY := fun w => check_yes 7 w
  go_enter Tryz.func22, Tryz.ntmps22
  go_wp2_with (first
    | (go_at_call 24; first
       | (with_reducible refine (HCN _).mono ?_; rintro e w' ⟨rfl, rfl⟩)
       | (with_reducible refine (HCY _).mono ?_; rintro e w' ⟨rfl, rfl⟩))
    | fail)
  exact ⟨rfl, by go_grown, rfl⟩
set_option maxRecDepth 100000 in
set_option maxHeartbeats 16000000 in
theorem choose_f5a (n : Nat) (w : World) (sA : Option Addr) (sn sk : Nat) (ia : Option Addr) (il ik : Nat) (xtab : ByteArray) (ya za va : Option Addr) (yn yc zn zc vn vc : Nat) (xA : Option Addr) (xq xc : Nat) (fA : Option Addr) (fq fc : Nat) (hA : Option Addr) (hq0 hc : Nat) (uA : Option Addr) (uq uc : Nat) (oA : Option Addr) (q oc : Nat) (lim : Int) (c2 : ((0 : Int) < (fq : Int)) = True) (c3 : ((hq0 : Int) ≤ 1) = True) (c4 : ((xq : Int) == 0) = true) (c5 : ((-1 : Int) ≤ lim) = False) : Calls Tryz.prog 22 #[.agg #[.slice sA sn sk, .slice ia il ik], .agg #[.int .i64 1, .string xtab, .slice ya yn yc, .slice za zn zc, .slice va vn vc, .bool true, .slice xA xq xc, .slice fA fq fc, .slice hA hq0 hc, .slice uA uq uc, .slice oA q oc, .int .i64 lim]] w (ChooseO n w (.error 7)) := by
  have c2n : (0 < fq) = True := by rw [← c2]; simp
  have c3n : (hq0 ≤ 1) = True := by rw [← c3, eq_iff_iff]; omega
  have c4n : (xq == 0) = true := by rw [← c4, Bool.eq_iff_iff, beq_iff_eq, beq_iff_eq]; omega
  have c4m : (xq = 0) = True := by exact eq_true (beq_iff_eq.1 c4n)
  have HCN := fun w => check_no 7 w
  have HCY := fun w => check_yes 7 w
  go_enter Tryz.func22, Tryz.ntmps22
  go_wp2_with (first
    | (go_at_call 24; first
       | (with_reducible refine (HCN _).mono ?_; rintro e w' ⟨rfl, rfl⟩)
       | (with_reducible refine (HCY _).mono ?_; rintro e w' ⟨rfl, rfl⟩))
    | fail)
  exact ⟨rfl, by go_grown, rfl⟩
set_option maxRecDepth 100000 in
set_option maxHeartbeats 16000000 in
theorem choose_f5b (n : Nat) (w : World) (sA : Option Addr) (sn sk : Nat) (ia : Option Addr) (il ik : Nat) (xtab : ByteArray) (ya za va : Option Addr) (yn yc zn zc vn vc : Nat) (xA : Option Addr) (xq xc : Nat) (fA : Option Addr) (fq fc : Nat) (hA : Option Addr) (hq0 hc : Nat) (uA : Option Addr) (uq uc : Nat) (oA : Option Addr) (q oc : Nat) (lim : Int) (c2 : ((0 : Int) < (fq : Int)) = True) (c3 : ((hq0 : Int) ≤ 1) = True) (c4 : ((xq : Int) == 0) = false) (c5 : ((-1 : Int) ≤ lim) = False) : Calls Tryz.prog 22 #[.agg #[.slice sA sn sk, .slice ia il ik], .agg #[.int .i64 1, .string xtab, .slice ya yn yc, .slice za zn zc, .slice va vn vc, .bool false, .slice xA xq xc, .slice fA fq fc, .slice hA hq0 hc, .slice uA uq uc, .slice oA q oc, .int .i64 lim]] w (ChooseO n w (.error 7)) := by
  have c2n : (0 < fq) = True := by rw [← c2]; simp
  have c3n : (hq0 ≤ 1) = True := by rw [← c3, eq_iff_iff]; omega
  have c4n : (xq == 0) = false := by rw [← c4, Bool.eq_iff_iff, beq_iff_eq, beq_iff_eq]; omega
  have c4m : (xq = 0) = False := by exact eq_false (beq_eq_false_iff_ne.1 c4n)
  have HCN := fun w => check_no 7 w
  have HCY := fun w => check_yes 7 w
  go_enter Tryz.func22, Tryz.ntmps22
  go_wp2_with (first
    | (go_at_call 24; first
       | (with_reducible refine (HCN _).mono ?_; rintro e w' ⟨rfl, rfl⟩)
       | (with_reducible refine (HCY _).mono ?_; rintro e w' ⟨rfl, rfl⟩))
    | fail)
  exact ⟨rfl, by go_grown, rfl⟩
set_option maxRecDepth 100000 in
set_option maxHeartbeats 16000000 in
theorem choose_f6a (n : Nat) (w : World) (sA : Option Addr) (sn sk : Nat) (ia : Option Addr) (il ik : Nat) (xtab : ByteArray) (ya za va : Option Addr) (yn yc zn zc vn vc : Nat) (xA : Option Addr) (xq xc : Nat) (fA : Option Addr) (fq fc : Nat) (hA : Option Addr) (hq0 hc : Nat) (uA : Option Addr) (uq uc : Nat) (oA : Option Addr) (q oc : Nat) (lim : Int) (c2 : ((0 : Int) < (fq : Int)) = True) (c3 : ((hq0 : Int) ≤ 1) = True) (c4 : ((xq : Int) == 0) = true) (c5 : ((-1 : Int) ≤ lim) = True) (c6 : ((fq : Int) ≤ 4) = False) : Calls Tryz.prog 22 #[.agg #[.slice sA sn sk, .slice ia il ik], .agg #[.int .i64 1, .string xtab, .slice ya yn yc, .slice za zn zc, .slice va vn vc, .bool true, .slice xA xq xc, .slice fA fq fc, .slice hA hq0 hc, .slice uA uq uc, .slice oA q oc, .int .i64 lim]] w (ChooseO n w (.error 11)) := by
  have c2n : (0 < fq) = True := by rw [← c2]; simp
  have c3n : (hq0 ≤ 1) = True := by rw [← c3, eq_iff_iff]; omega
  have c4n : (xq == 0) = true := by rw [← c4, Bool.eq_iff_iff, beq_iff_eq, beq_iff_eq]; omega
  have c4m : (xq = 0) = True := by exact eq_true (beq_iff_eq.1 c4n)
  have c6n : (fq ≤ 4) = False := by rw [← c6, eq_iff_iff]; omega
  have HCN := fun w => check_no 11 w
  have HCY := fun w => check_yes 7 w
  go_enter Tryz.func22, Tryz.ntmps22
  go_wp2_with (first
    | (go_at_call 24; first
       | (with_reducible refine (HCN _).mono ?_; rintro e w' ⟨rfl, rfl⟩)
       | (with_reducible refine (HCY _).mono ?_; rintro e w' ⟨rfl, rfl⟩))
    | fail)
  exact ⟨rfl, by go_grown, rfl⟩
set_option maxRecDepth 100000 in
set_option maxHeartbeats 16000000 in
theorem choose_f6b (n : Nat) (w : World) (sA : Option Addr) (sn sk : Nat) (ia : Option Addr) (il ik : Nat) (xtab : ByteArray) (ya za va : Option Addr) (yn yc zn zc vn vc : Nat) (xA : Option Addr) (xq xc : Nat) (fA : Option Addr) (fq fc : Nat) (hA : Option Addr) (hq0 hc : Nat) (uA : Option Addr) (uq uc : Nat) (oA : Option Addr) (q oc : Nat) (lim : Int) (c2 : ((0 : Int) < (fq : Int)) = True) (c3 : ((hq0 : Int) ≤ 1) = True) (c4 : ((xq : Int) == 0) = false) (c5 : ((-1 : Int) ≤ lim) = True) (c6 : ((fq : Int) ≤ 4) = False) : Calls Tryz.prog 22 #[.agg #[.slice sA sn sk, .slice ia il ik], .agg #[.int .i64 1, .string xtab, .slice ya yn yc, .slice za zn zc, .slice va vn vc, .bool false, .slice xA xq xc, .slice fA fq fc, .slice hA hq0 hc, .slice uA uq uc, .slice oA q oc, .int .i64 lim]] w (ChooseO n w (.error 11)) := by
  have c2n : (0 < fq) = True := by rw [← c2]; simp
  have c3n : (hq0 ≤ 1) = True := by rw [← c3, eq_iff_iff]; omega
  have c4n : (xq == 0) = false := by rw [← c4, Bool.eq_iff_iff, beq_iff_eq, beq_iff_eq]; omega
  have c4m : (xq = 0) = False := by exact eq_false (beq_eq_false_iff_ne.1 c4n)
  have c6n : (fq ≤ 4) = False := by rw [← c6, eq_iff_iff]; omega
  have HCN := fun w => check_no 11 w
  have HCY := fun w => check_yes 7 w
  go_enter Tryz.func22, Tryz.ntmps22
  go_wp2_with (first
    | (go_at_call 24; first
       | (with_reducible refine (HCN _).mono ?_; rintro e w' ⟨rfl, rfl⟩)
       | (with_reducible refine (HCY _).mono ?_; rintro e w' ⟨rfl, rfl⟩))
    | fail)
  exact ⟨rfl, by go_grown, rfl⟩
set_option maxRecDepth 100000 in
set_option maxHeartbeats 16000000 in
theorem choose_gt (n : Nat) (w : World) (sA : Option Addr) (sn sk : Nat) (ia : Option Addr) (il ik : Nat) (xtab : ByteArray) (ya za va : Option Addr) (yn yc zn zc vn vc : Nat) (xA : Option Addr) (xq xc : Nat) (fA : Option Addr) (fq fc : Nat) (hA : Option Addr) (hq0 hc : Nat) (uA : Option Addr) (uq uc : Nat) (oA : Option Addr) (q oc : Nat) (lim : Int) (R : Except Int Qy) (c2 : ((0 : Int) < (fq : Int)) = True) (c3 : ((hq0 : Int) ≤ 1) = True) (c4 : ((xq : Int) == 0) = true) (c5 : ((-1 : Int) ≤ lim) = True) (c6 : ((fq : Int) ≤ 4) = True)
    (HSEG : ∀ a W, Slots w a → CM w #[.slice sA sn sk, .slice ia il ik] #[.int .i64 1, .string xtab, .slice ya yn yc, .slice za zn zc, .slice va vn vc, .bool true, .slice xA xq xc, .slice fA fq fc, .slice hA hq0 hc, .slice uA uq uc, .slice oA q oc, .int .i64 lim] #[.slice none 0 0, .slice none 0 0, .int .i64 0, .slice none 0 0, .slice none 0 0, .bool false, .slice none 0 0, .slice none 0 0, .int .i64 lim] #[.slice none 0 0, .slice none 0 0, .slice none 0 0, .bool false, .bool false] W → (chC 5).wp Tryz.prog (bodyPost Tryz.prog Tryz.f22 (ChooseO n w R)) a W) : Calls Tryz.prog 22 #[.agg #[.slice sA sn sk, .slice ia il ik], .agg #[.int .i64 1, .string xtab, .slice ya yn yc, .slice za zn zc, .slice va vn vc, .bool true, .slice xA xq xc, .slice fA fq fc, .slice hA hq0 hc, .slice uA uq uc, .slice oA q oc, .int .i64 lim]] w (ChooseO n w R) := by
  have c2n : (0 < fq) = True := by rw [← c2]; simp
  have c3n : (hq0 ≤ 1) = True := by rw [← c3, eq_iff_iff]; omega
  have c4n : (xq == 0) = true := by rw [← c4, Bool.eq_iff_iff, beq_iff_eq, beq_iff_eq]; omega
  have c4m : (xq = 0) = True := by exact eq_true (beq_iff_eq.1 c4n)
  have c6n : (fq ≤ 4) = True := by rw [← c6, eq_iff_iff]; omega
  have HS := Lib.hid HSEG
  have HM := Lib.hid (cm_start w #[.slice sA sn sk, .slice ia il ik] #[.int .i64 1, .string xtab, .slice ya yn yc, .slice za zn zc, .slice va vn vc, .bool true, .slice xA xq xc, .slice fA fq fc, .slice hA hq0 hc, .slice uA uq uc, .slice oA q oc, .int .i64 lim] #[.slice none 0 0, .slice none 0 0, .int .i64 0, .slice none 0 0, .slice none 0 0, .bool false, .slice none 0 0, .slice none 0 0, .int .i64 lim] #[.slice none 0 0, .slice none 0 0, .slice none 0 0, .bool false, .bool false])
  clear HSEG
  have HC7 := fun w => check_yes 7 w
  have HC11 := fun w => check_yes 11 w
  go_enter Tryz.func22, Tryz.ntmps22
  refine wp_seq_k fun K0 hK0 => ?_
  have HK0 := Lib.hid hK0
  clear hK0
  go_wp2_with fail
  refine HK0.out _ _ ?_
  refine wp_seq_k fun K1 hK1 => ?_
  have HK1 := Lib.hid hK1
  clear hK1
  go_wp2_with (first
    | (go_at_call 24; (with_reducible refine (HC7 _).mono ?_; rintro e w' ⟨rfl, rfl⟩))
    | fail)
  refine HK1.out _ _ ?_
  refine wp_seq_k fun K2 hK2 => ?_
  have HK2 := Lib.hid hK2
  clear hK2
  go_wp2_with (first
    | (go_at_call 24; (with_reducible refine (HC11 _).mono ?_; rintro e w' ⟨rfl, rfl⟩))
    | fail)
  refine HK2.out _ _ ?_
  refine wp_seq_k fun K3 hK3 => ?_
  have HK3 := Lib.hid hK3
  clear hK3
  go_wp2_with fail
  refine HK3.out _ _ ?_
  refine wp_seq_k fun K4 hK4 => ?_
  have HK4 := Lib.hid (show ∀ a w', (chC 5).wp Tryz.prog (bodyPost Tryz.prog Tryz.f22 (ChooseO n w R)) a w' → K4 a w' from hK4)
  clear hK4
  go_wp2_with fail
  refine HK4.out _ _ (HS.out _ _ ⟨?_, ?_, ?_, ?_, ?_, ?_, ?_⟩ HM.out) <;> rfl
set_option maxRecDepth 100000 in
set_option maxHeartbeats 16000000 in
theorem choose_gf (n : Nat) (w : World) (sA : Option Addr) (sn sk : Nat) (ia : Option Addr) (il ik : Nat) (xtab : ByteArray) (ya za va : Option Addr) (yn yc zn zc vn vc : Nat) (xA : Option Addr) (xq xc : Nat) (fA : Option Addr) (fq fc : Nat) (hA : Option Addr) (hq0 hc : Nat) (uA : Option Addr) (uq uc : Nat) (oA : Option Addr) (q oc : Nat) (lim : Int) (R : Except Int Qy) (c2 : ((0 : Int) < (fq : Int)) = True) (c3 : ((hq0 : Int) ≤ 1) = True) (c4 : ((xq : Int) == 0) = false) (c5 : ((-1 : Int) ≤ lim) = True) (c6 : ((fq : Int) ≤ 4) = True)
    (HSEG : ∀ a W, Slots w a → CM w #[.slice sA sn sk, .slice ia il ik] #[.int .i64 1, .string xtab, .slice ya yn yc, .slice za zn zc, .slice va vn vc, .bool false, .slice xA xq xc, .slice fA fq fc, .slice hA hq0 hc, .slice uA uq uc, .slice oA q oc, .int .i64 lim] #[.slice none 0 0, .slice none 0 0, .int .i64 0, .slice none 0 0, .slice none 0 0, .bool false, .slice none 0 0, .slice none 0 0, .int .i64 lim] #[.slice none 0 0, .slice none 0 0, .slice none 0 0, .bool false, .bool false] W → (chC 5).wp Tryz.prog (bodyPost Tryz.prog Tryz.f22 (ChooseO n w R)) a W) : Calls Tryz.prog 22 #[.agg #[.slice sA sn sk, .slice ia il ik], .agg #[.int .i64 1, .string xtab, .slice ya yn yc, .slice za zn zc, .slice va vn vc, .bool false, .slice xA xq xc, .slice fA fq fc, .slice hA hq0 hc, .slice uA uq uc, .slice oA q oc, .int .i64 lim]] w (ChooseO n w R) := by
  have c2n : (0 < fq) = True := by rw [← c2]; simp
  have c3n : (hq0 ≤ 1) = True := by rw [← c3, eq_iff_iff]; omega
  have c4n : (xq == 0) = false := by rw [← c4, Bool.eq_iff_iff, beq_iff_eq, beq_iff_eq]; omega
  have c4m : (xq = 0) = False := by exact eq_false (beq_eq_false_iff_ne.1 c4n)
  have c6n : (fq ≤ 4) = True := by rw [← c6, eq_iff_iff]; omega
  have HS := Lib.hid HSEG
  have HM := Lib.hid (cm_start w #[.slice sA sn sk, .slice ia il ik] #[.int .i64 1, .string xtab, .slice ya yn yc, .slice za zn zc, .slice va vn vc, .bool false, .slice xA xq xc, .slice fA fq fc, .slice hA hq0 hc, .slice uA uq uc, .slice oA q oc, .int .i64 lim] #[.slice none 0 0, .slice none 0 0, .int .i64 0, .slice none 0 0, .slice none 0 0, .bool false, .slice none 0 0, .slice none 0 0, .int .i64 lim] #[.slice none 0 0, .slice none 0 0, .slice none 0 0, .bool false, .bool false])
  clear HSEG
  have HC7 := fun w => check_yes 7 w
  have HC11 := fun w => check_yes 11 w
  go_enter Tryz.func22, Tryz.ntmps22
  refine wp_seq_k fun K0 hK0 => ?_
  have HK0 := Lib.hid hK0
  clear hK0
  go_wp2_with fail
  refine HK0.out _ _ ?_
  refine wp_seq_k fun K1 hK1 => ?_
  have HK1 := Lib.hid hK1
  clear hK1
  go_wp2_with (first
    | (go_at_call 24; (with_reducible refine (HC7 _).mono ?_; rintro e w' ⟨rfl, rfl⟩))
    | fail)
  refine HK1.out _ _ ?_
  refine wp_seq_k fun K2 hK2 => ?_
  have HK2 := Lib.hid hK2
  clear hK2
  go_wp2_with (first
    | (go_at_call 24; (with_reducible refine (HC11 _).mono ?_; rintro e w' ⟨rfl, rfl⟩))
    | fail)
  refine HK2.out _ _ ?_
  refine wp_seq_k fun K3 hK3 => ?_
  have HK3 := Lib.hid hK3
  clear hK3
  go_wp2_with fail
  refine HK3.out _ _ ?_
  refine wp_seq_k fun K4 hK4 => ?_
  have HK4 := Lib.hid (show ∀ a w', (chC 5).wp Tryz.prog (bodyPost Tryz.prog Tryz.f22 (ChooseO n w R)) a w' → K4 a w' from hK4)
  clear hK4
  go_wp2_with fail
  refine HK4.out _ _ (HS.out _ _ ⟨?_, ?_, ?_, ?_, ?_, ?_, ?_⟩ HM.out) <;> rfl
end Go.Proofs.YthdmfaepjemopaaGreatDoor
namespace Go.Proofs.YthdmfaepjemopaaGreatDoor
open Go.RowKit

structure St where
  kind : Int
  tab : ByteArray
  ya : Option Addr
  yn : Nat
  yc : Nat
  za : Option Addr
  zn : Nat
  zc : Nat
  va : Option Addr
  vn : Nat
  vc : Nat
  star : Bool
  xA : Option Addr
  xc : Nat
  xs : List Ex
  fA : Option Addr
  fc : Nat
  fs : List (ByteArray × ByteArray)
  hA : Option Addr
  hc : Nat
  hs : List Ex
  uA : Option Addr
  uc : Nat
  us : List Ex
  oA : Option Addr
  oc : Nat
  ol : List (Ex × Bool)
  lim : Int
@[reducible] def stV (x : St) : Value := .agg #[.int .i64 x.kind, .string x.tab, .slice x.ya x.yn x.yc, .slice x.za x.zn x.zc, .slice x.va x.vn x.vc, .bool x.star, .slice x.xA x.xs.length x.xc, .slice x.fA x.fs.length x.fc, .slice x.hA x.hs.length x.hc, .slice x.uA x.us.length x.uc, .slice x.oA x.ol.length x.oc, .int .i64 x.lim]
def chooseR (n : Nat) (ts : List (Tab × List Col)) (x : St) : Except Int Qy :=
  if ¬ (x.kind = 1 ∧ 0 < x.fs.length ∧ x.hs.length ≤ 1 ∧ (x.star = true ↔ x.xs.length = 0) ∧ -1 ≤ x.lim) then .error 7 else if 4 < x.fs.length then .error 11 else match foldE (fromR ts) ([], [], 0) x.fs with
    | .error e => .error e
    | .ok (rows, tl, wd) => midR n rows tl wd x.hs x.us x.xs x.star x.ol x.lim
structure StAt (w : World) (n : Nat) (x : St) : Prop where
  xs : ExsAt w n x.xA x.xs
  fs : CellsAt w 2 x.fA (x.fs.map fromL)
  hs : ExsAt w n x.hA x.hs
  us : ExsAt w n x.uA x.us
  ol : CellsAt w 11 x.oA (x.ol.map ordL) ∧ ∀ p ∈ x.ol, ExAt w n p.1
theorem StAt.keep {w w' : World} {n : Nat} {x : St} (h : StAt w n x) (hB : Below w.heap.size w w') : StAt w' n x :=
  ⟨h.xs.keep hB, CellsAt.keep hB h.fs, h.hs.keep hB, h.us.keep hB, CellsAt.keep hB h.ol.1, fun p hp => (h.ol.2 p hp).keep hB⟩
structure StSmall (n : Nat) (x : St) : Prop where
  xs : x.xs.length ≤ 30 ∧ ∀ y ∈ x.xs, SmallX n y
  hs : x.hs.length ≤ 30 ∧ (∀ y ∈ x.hs, SmallX n y) ∧ ∀ rows, ∀ y ∈ x.hs, ∀ p, bindR n rows false y = .ok p → AndTwo n p ∧ (partsR n p).length ≤ 1000
  us : x.us.length ≤ 30
  ol : x.ol.length ≤ 12
theorem choose_any (n : Nat) (hn : 0 < n) (sA : Option Addr) (sk : Nat) (ia : Option Addr) (il ik : Nat) (ts : List (Tab × List Col)) (x : St) (w : World) (hD : DeepAt w sA ts) (ht : ∀ p ∈ ts, p.2.length ≤ 12) (hX : StAt w n x) (hM : StSmall n x) :
    Calls Tryz.prog 22 #[.agg #[.slice sA ts.length sk, .slice ia il ik], stV x] w (ChooseO n w (chooseR n ts x)) := by
  obtain ⟨k, xtab, ya, yn, yc, za, zn, zc, va, vn, vc, star, xA, xc, xs, fA, fc, fs, hA, hc, hs, uA, uc, us, oA, oc, ol, lim⟩ := x
  unfold stV
  dsimp only at hX hM ⊢
  have e7 : ∀ {P : Prop}, ¬ P → (P ↔ (k = 1 ∧ 0 < fs.length ∧ hs.length ≤ 1 ∧ (star = true ↔ xs.length = 0) ∧ -1 ≤ lim)) → chooseR n ts ⟨k, xtab, ya, yn, yc, za, zn, zc, va, vn, vc, star, xA, xc, xs, fA, fc, fs, hA, hc, hs, uA, uc, us, oA, oc, ol, lim⟩ = .error 7 := fun hp hi => by
    unfold chooseR
    rw [if_pos (fun h => hp (hi.2 h))]
  by_cases c1 : k = 1
  · subst c1
    by_cases c2 : 0 < fs.length
    · have c2' : ((0 : Int) < (fs.length : Int)) = True := eq_true (by omega)
      by_cases c3 : hs.length ≤ 1
      · have c3' : ((hs.length : Int) ≤ 1) = True := eq_true (by omega)
        by_cases c4 : (star = true ↔ xs.length = 0)
        · by_cases c5 : -1 ≤ lim
          · have c5' : ((-1 : Int) ≤ lim) = True := eq_true c5
            by_cases c6 : fs.length ≤ 4
            · have c6' : ((fs.length : Int) ≤ 4) = True := eq_true (by omega)
              have e : chooseR n ts ⟨1, xtab, ya, yn, yc, za, zn, zc, va, vn, vc, star, xA, xc, xs, fA, fc, fs, hA, hc, hs, uA, uc, us, oA, oc, ol, lim⟩ = match foldE (fromR ts) ([], [], 0) fs with | .error e => .error e | .ok (rows, tl, wd) => midR n rows tl wd hs us xs star ol lim := by
                unfold chooseR
                rw [if_neg (fun h => h ⟨rfl, c2, c3, c4, c5⟩), if_neg (by show ¬ 4 < fs.length; omega)]
              rw [e]
              have HS := fun a W hS hc0 => seg0l n w sA ts.length sk ia il ik ts (.int .i64 1) (.string xtab) (.slice ya yn yc) (.slice za zn zc) (.slice va vn vc) (.int .i64 lim) star xA xs.length xc xs fA fs.length fc fs hA hs.length hc hs uA us.length uc us oA ol.length oc ol lim hn rfl hD ht rfl c6 hX.fs rfl hM.xs.1 hX.xs hM.xs.2 rfl hM.hs.1 hX.hs hM.hs.2.1 hM.hs.2.2 rfl hM.us hX.us.1 rfl hM.ol hX.ol.1 a W hS hc0
              cases star with
              | true => exact choose_gt n w sA ts.length sk ia il ik xtab ya za va yn yc zn zc vn vc xA xs.length xc fA fs.length fc hA hs.length hc uA us.length uc oA ol.length oc lim _ c2' c3' (by rw [beq_iff_eq]; have := c4.1 rfl; omega) c5' c6' HS
              | false => exact choose_gf n w sA ts.length sk ia il ik xtab ya za va yn yc zn zc vn vc xA xs.length xc fA fs.length fc hA hs.length hc uA us.length uc oA ol.length oc lim _ c2' c3' (by rw [beq_eq_false_iff_ne]; intro h; have := c4.2 (by omega); cases this) c5' c6' HS
            · have c6' : ((fs.length : Int) ≤ 4) = False := eq_false (by omega)
              have e : chooseR n ts ⟨1, xtab, ya, yn, yc, za, zn, zc, va, vn, vc, star, xA, xc, xs, fA, fc, fs, hA, hc, hs, uA, uc, us, oA, oc, ol, lim⟩ = .error 11 := by
                unfold chooseR
                rw [if_neg (fun h => h ⟨rfl, c2, c3, c4, c5⟩), if_pos (by show 4 < fs.length; omega)]
              rw [e]
              cases star with
              | true => exact choose_f6a n w sA ts.length sk ia il ik xtab ya za va yn yc zn zc vn vc xA xs.length xc fA fs.length fc hA hs.length hc uA us.length uc oA ol.length oc lim c2' c3' (by rw [beq_iff_eq]; have := c4.1 rfl; omega) c5' c6'
              | false => exact choose_f6b n w sA ts.length sk ia il ik xtab ya za va yn yc zn zc vn vc xA xs.length xc fA fs.length fc hA hs.length hc uA us.length uc oA ol.length oc lim c2' c3' (by rw [beq_eq_false_iff_ne]; intro h; have := c4.2 (by omega); cases this) c5' c6'
          · have c5' : ((-1 : Int) ≤ lim) = False := eq_false c5
            rw [e7 (fun h => c5 h.2.2.2.2) Iff.rfl]
            cases star with
            | true => exact choose_f5a n w sA ts.length sk ia il ik xtab ya za va yn yc zn zc vn vc xA xs.length xc fA fs.length fc hA hs.length hc uA us.length uc oA ol.length oc lim c2' c3' (by rw [beq_iff_eq]; have := c4.1 rfl; omega) c5'
            | false => exact choose_f5b n w sA ts.length sk ia il ik xtab ya za va yn yc zn zc vn vc xA xs.length xc fA fs.length fc hA hs.length hc uA us.length uc oA ol.length oc lim c2' c3' (by rw [beq_eq_false_iff_ne]; intro h; have := c4.2 (by omega); cases this) c5'
        · rw [e7 (fun h => c4 h.2.2.2.1) Iff.rfl]
          cases star with
          | true => exact choose_f4a n w sA ts.length sk ia il ik xtab ya za va yn yc zn zc vn vc xA xs.length xc fA fs.length fc hA hs.length hc uA us.length uc oA ol.length oc lim c2' c3' (by rw [beq_eq_false_iff_ne]; intro h; exact c4 ⟨fun _ => by omega, fun _ => rfl⟩)
          | false => exact choose_f4b n w sA ts.length sk ia il ik xtab ya za va yn yc zn zc vn vc xA xs.length xc fA fs.length fc hA hs.length hc uA us.length uc oA ol.length oc lim c2' c3' (by
              rw [beq_iff_eq]
              apply Classical.byContradiction
              intro h
              exact c4 (Iff.intro (fun e => by cases e) (fun e => absurd (show (xs.length : Int) = 0 by omega) h)))
      · have c3' : ((hs.length : Int) ≤ 1) = False := eq_false (by omega)
        rw [e7 (fun h => c3 h.2.2.1) Iff.rfl]
        exact choose_f3 n w sA ts.length sk ia il ik xtab ya za va yn yc zn zc vn vc xA xs.length xc fA fs.length fc hA hs.length hc uA us.length uc oA ol.length oc lim star c2' c3'
    · have c2' : ((0 : Int) < (fs.length : Int)) = False := eq_false (by omega)
      rw [e7 (fun h => c2 h.2.1) Iff.rfl]
      exact choose_f2 n w sA ts.length sk ia il ik xtab ya za va yn yc zn zc vn vc xA xs.length xc fA fs.length fc hA hs.length hc uA us.length uc oA ol.length oc lim star c2'
  · rw [e7 (fun h => c1 h.1) Iff.rfl]
    exact choose_f1 n w sA ts.length sk ia il ik k xtab ya za va yn yc zn zc vn vc xA xs.length xc fA fs.length fc hA hs.length hc uA us.length uc oA ol.length oc lim star (beq_eq_false_iff_ne.2 c1)
end Go.Proofs.YthdmfaepjemopaaGreatDoor
