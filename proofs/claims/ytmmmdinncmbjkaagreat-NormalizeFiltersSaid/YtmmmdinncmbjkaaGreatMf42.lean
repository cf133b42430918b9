/- Contract: the law's Made: a database out of schemas and updates. -/
import Derived.Test.YtmmmdinncmbjkaaGreatMf36
import Derived.Test.YtmmmdinncmbjkaaGreatMf41
namespace Go.Proofs.YtmmmdinncmbjkaaGreat
open Go.RowKit Go.Maps
def stepD (M : Dm) (u : Up) : Dm := match appD M u with
  | .ok p => p.1
  | .error _ => M
/-- The database of schemas and updates. -/
def madeD (ss : List Sc) (us : List Up) : Dm := us.foldl stepD (dmL ss)
theorem madeD_take {ss : List Sc} {us : List Up} {i : Nat} (hi : i < us.length) : madeD ss (us.take (i + 1)) = stepD (madeD ss (us.take i)) us[i] := by
  unfold madeD
  rw [List.take_succ_eq_append_getElem hi, List.foldl_append]
  rfl
theorem app1_no {M : Dm} {u : Up} {er : Int} (h : appL M 0 [u] = .error er) : stepD M u = M := by
  unfold stepD
  unfold appL at h
  split
  · rename_i p hp
    rw [hp] at h
    simp [appL] at h
  · rfl
theorem app1_yes {M M' : Dm} {u : Up} {k : Nat} (h : appL M 0 [u] = .ok (M', k)) : stepD M u = M' := by
  unfold stepD
  unfold appL at h
  split
  · rename_i p hp
    rw [hp] at h
    simp only [appL, Except.ok.injEq, Prod.mk.injEq] at h
    exact h.1
  · rename_i er hp
    rw [hp] at h
    cases h
theorem dmL_ok {ss : List Sc} (h : ∀ x ∈ ss, ScOk x) : DmOk (dmL ss) := by
  have hk : ∀ s e, dmL ss s = some e → e.rel.rows = [] ∧ e.rel.ar = (e.kinds.length : Int) ∧ e.kinds.length ≤ 6 := fun s e he => by
    obtain ⟨h1, h2, y, hy, -, h4⟩ := dmL_rows he
    exact ⟨h1, h2, by rw [← h4]; exact (h y hy).2.1⟩
  refine ⟨fun s e he => ⟨(hk s e he).2.1, (hk s e he).2.2⟩, fun s e he => ?_, fun s e he x hx => ?_⟩
  · rw [(hk s e he).1]
    exact ⟨List.Pairwise.nil, by simp⟩
  · rw [(hk s e he).1] at hx
    simp at hx
/-- The facts of a database. -/
def factsOf (M : Dm) (s : Sc) : List Fc := (rowsOf M s.name).map (fun r => ⟨s.name, r⟩)
def factsL (M : Dm) (ss : List Sc) : List Fc := ss.flatMap (factsOf M)
theorem factsL_take {M : Dm} {ss : List Sc} {i : Nat} (hi : i < ss.length) : factsL M (ss.take (i + 1)) = factsL M (ss.take i) ++ factsOf M ss[i] := by
  unfold factsL
  rw [List.take_succ_eq_append_getElem hi, List.flatMap_append]
  simp
theorem up_one {H : Nat → Prop} {w : World} {q : Nat} {del : Bool} {rl : ByteArray} {u : Value} {x : List Vl} (hb : Bk w q 113 [.bool del, .string rl, u]) (hx : Sl rdVl H w u x) : Sl rdUp (fun _ => True) w (.slice (some ⟨q, 0, none⟩) 1 1) [⟨del, rl, x⟩] := by
  refine ⟨some ⟨q, 0, none⟩, 1, rfl, Nat.le_refl _, fun i hi => ?_⟩
  obtain rfl : i = 0 := by simp at hi; omega
  refine ⟨⟨q, 0, none⟩, _, rfl, trivial, ⟨_, rfl, hx.mono (by decide) (fun _ _ _ => trivial)⟩, fun j hj => ?_⟩
  have h := hb.cell (i := j) hj
  rw [Nat.zero_mul, Nat.zero_add, add_own]
  exact h
/-- What one update brings. -/
def AR (M : Dm) (u : Up) (nn : Nat) (R : Nat → Prop) (B : Nat) (w : World) (mb : Option Nat) (er : Int) : Prop := (er ≠ 0 ∧ stepD M u = M) ∨ (er = 0 ∧ ∃ g, mb = some g ∧ B ≤ g ∧ DmOk (stepD M u) ∧ DbB (fun k => R k ∨ g < k) w g nn (stepD M u))
theorem AR.fr {M : Dm} {u : Up} {nn B : Nat} {R : Nat → Prop} {w w' : World} {mb : Option Nat} {er : Int} {S : Nat → Prop} (h : AR M u nn R B w mb er) (hf : Fr S w w') (hs : ∀ k, S k → ¬ R k ∧ k < B) : AR M u nn R B w' mb er := by
  rcases h with h | ⟨h1, g, h2, h3, h4, h5⟩
  · exact .inl h
  · refine .inr ⟨h1, g, h2, h3, h4, h5.fr hf (fun hg => ?_) (fun k hk hS => ?_)⟩
    · have := (hs g hg).2
      omega
    · rcases hk with hk | hk
      · exact (hs k hS).1 hk
      · have := (hs k hS).2
        omega
theorem AR.mono {M : Dm} {u : Up} {nn B B' : Nat} {R : Nat → Prop} {w : World} {mb : Option Nat} {er : Int} (h : AR M u nn R B w mb er) (hb : B' ≤ B) : AR M u nn R B' w mb er := by
  rcases h with h | ⟨h1, g, h2, h3, h4, h5⟩
  · exact .inl h
  · exact .inr ⟨h1, g, h2, by omega, h4, h5⟩
theorem ApPost.step {M : Dm} {u : Up} {nn : Nat} {R : Nat → Prop} {V w' : World} {e : Ending} (h : ApPost R M [u] nn V e w') : ∃ (mb : Option Nat) (n' er : Int), e = .returned (.tuple #[.agg #[.map mb], .int .i64 n', .int .i64 er]) ∧ Ext V w' ∧ AR M u (nn + 1) R V.heap.size w' mb er := by
  obtain ⟨he, ⟨er, h1, h2, rfl⟩ | ⟨M', k, g, h1, rfl, h3, -, h5, h6⟩⟩ := h
  · exact ⟨none, 0, er, rfl, he, .inl ⟨h2, app1_no h1⟩⟩
  · refine ⟨some g, (k : Int), 0, rfl, he, .inr ⟨rfl, g, rfl, h3, ?_, ?_⟩⟩
    · rw [app1_yes h1]; exact h5
    · rw [app1_yes h1]
      exact h6.mono (fun q _ hq => hq.imp (fun h => h.1) id)
theorem RelPost.one {M : Dm} {s : ByteArray} {F : Nat → Prop} {V w' : World} {e : Ending} (h : RelPost F M s V e w') : ∃ (ra : Int) (A : Option Addr) (c : Nat) (ok : Bool), e = .returned (.tuple #[.agg #[.int .i64 ra, .slice A (rowsOf M s).length c], .bool ok]) ∧ Ext V w' ∧ Sl rdRow F w' (.slice A (rowsOf M s).length c) (rowsOf M s) := by
  unfold rowsOf
  obtain ⟨he, ⟨h1, rfl⟩ | ⟨x, A, c, h1, rfl, h2⟩⟩ := h
  · rw [h1]
    exact ⟨0, none, 0, false, rfl, he, Sl.nil _ _ _⟩
  · rw [h1]
    exact ⟨x.rel.ar, A, c, true, rfl, he, h2⟩
theorem rowsOf_le {M : Dm} (h : DmOk M) (s : ByteArray) : (rowsOf M s).length ≤ 4096 ∧ ∀ r ∈ rowsOf M s, r.length ≤ 1048576 := by
  unfold rowsOf
  split
  · rename_i x hx
    refine ⟨(h.so _ _ hx).2, fun r hr => ?_⟩
    have h1 := (accE_zero (h.row _ _ hx r hr).1).1
    have h2 := h.ar _ _ hx
    omega
  · simp
theorem info_fc : (Tryz.prog.info? 117).map (fun i => (i.zero, i.size, i.bytes)) = some (some (.agg #[.string ⟨#[]⟩, .slice none 0 0]), 2, 40) := by kernel_rfl
def MadePost (ss : List Sc) (us : List Up) (w : World) (e : Ending) (w' : World) : Prop := Ext w w' ∧ ((∃ mb : Option Nat, e = .returned (.tuple #[.agg #[.map mb], .slice none 0 0, .bool false])) ∨
  ∃ (b nn : Nat) (A : Option Addr) (n c : Nat), e = .returned (.tuple #[.agg #[.map (some b)], .slice A n c, .bool true]) ∧ DbB (fun _ => True) w' b nn (madeD ss us) ∧ nn ≤ ss.length + us.length ∧ DmOk (madeD ss us) ∧ (∀ x ∈ ss, ScOk x) ∧ Sl rdFc (fun k => w.heap.size ≤ k) w' (.slice A n c) (factsL (madeD ss us) ss))
set_option maxRecDepth 20000 in
set_option maxHeartbeats 6400000 in
theorem made_any {F G : Nat → Prop} {w : World} {S U : Option Addr} {nS cS nU cU : Nat} {ss : List Sc} {us : List Up} (hS : Sl rdSc F w (.slice S nS cS) ss) (hU : Sl rdUp G w (.slice U nU cU) us) (hnS : nS ≤ 16) (hnU : nU ≤ 1000) (hz : ∀ x ∈ ss, x.name.size ≤ maxLen ∧ x.kinds.length ≤ maxLen) (hs : ∀ u ∈ us, u.rel.size ≤ maxLen ∧ u.row.length ≤ maxLen ∧ ∀ v ∈ u.row, v.str.size ≤ maxLen) :
    Calls Tryz.prog 13 #[.slice S nS cS, .slice U nU cU] w (MadePost ss us w) := by
  have hls := hS.cap.1; have hlu := hU.cap.1
  obtain ⟨i0, hi0, hz0, hz1, hz2⟩ := info_parts info_fc
  have HI0 := Lib.hid (And.intro hi0 (And.intro hz0 (And.intro hz1 hz2))); clear hi0 hz0 hz1 hz2
  have HNEW := Lib.hid (fun (V : World) (hV : Ext w V) => new_any (hS.ext hV) hnS (fun x hx => (hz x hx).1) (fun x hx => (hz x hx).2))
  have HS := Lib.hid hS; have HU := Lib.hid hU; have HZ := Lib.hid hz; have HSZ := Lib.hid hs; have HLS := Lib.hid hls; have HLU := Lib.hid hlu
  obtain ⟨Q, hQ⟩ : ∃ Q, Q = MadePost ss us w := ⟨_, rfl⟩
  rw [← hQ]
  have HQ := Lib.hid hQ
  clear hS hU hz hs hls hlu hQ
  go_enter Tryz.func13, Tryz.ntmps13
  go_upto_region 1 with fail
  have k4 := Bk.new w 26 [.map none]
  change Bk (w.alloc (.cells #[.map none] 26)) _ _ _ at k4
  have hx1 : Ext w (w.alloc (.cells #[.map none] 26)) := (Ext.refl w).alloc _
  generalize (w.alloc (.cells #[.map none] 26)) = w1 at *
  have HK4 := Lib.hid k4; have HX1 := Lib.hid hx1
  have hw1 : w.heap.size < w1.heap.size := k4.lt
  clear k4 hx1
  go_wp2_with fail
  refine (HNEW.out _ HX1.out).mono ?_
  rintro e w2 ⟨he2, mb, cc, rfl, hcc⟩
  have HX2 := Lib.hid (HX1.out.trans he2); have HK42 := Lib.hid (HK4.out.ext he2); have HCC := Lib.hid hcc
  have hw2 : w1.heap.size ≤ w2.heap.size := he2.size
  clear he2 hcc
  go_upto_region 2 with fail
  have k7 := Bk.new w2 26 [.map mb]
  change Bk (w2.alloc (.cells #[.map mb] 26)) _ _ _ at k7
  have hx3 : Ext w2 (w2.alloc (.cells #[.map mb] 26)) := (Ext.refl w2).alloc _
  generalize (w2.alloc (.cells #[.map mb] 26)) = w3 at *
  have HX3 := Lib.hid (HX2.out.trans hx3); have HK43 := Lib.hid (HK42.out.ext hx3); have HK7 := Lib.hid k7; have HX23 := Lib.hid hx3
  have hw3 : w2.heap.size < w3.heap.size := k7.lt
  clear k7 hx3
  obtain ⟨g7, hg7⟩ : ∃ g, g = w2.heap.size := ⟨_, rfl⟩
  rw [← hg7] at HK7 ⊢
  have hg71 : w2.heap.size ≤ g7 := by omega
  have hg72 : g7 ≤ w2.heap.size := by omega
  clear hg7
  rcases HCC.out with hc | ⟨rfl, b, n0, rfl, hb2, hn0, hdb, hok⟩
  · have hb : (cc != 0) = true := bne_iff_ne.2 hc
    have r0 := HK7.out.cell (i := 0) (by simp); have f4 := HK43.out.free 0
    have r4 := HK43.out.cell (i := 0) (by simp)
    simp only [List.getElem_cons_zero] at r0 r4
    clear hc
    go_wp2_with fail
    have kz : Bk (w3.setCell ⟨w.heap.size, 0, none⟩ (.map mb)) w.heap.size 26 [.map mb] := HK43.out.set 0 _
    have hez : Ext w (w3.setCell ⟨w.heap.size, 0, none⟩ (.map mb)) := HX3.out.setCell (p := ⟨w.heap.size, 0, none⟩) (Nat.le_refl _) _
    generalize (w3.setCell ⟨w.heap.size, 0, none⟩ (.map mb)) = wz at *
    have z0 := kz.cell (i := 0) (by simp)
    simp only [List.getElem_cons_zero] at z0
    refine bodyPost_ret (v := .tuple #[.agg #[.map mb], .slice none 0 0, .bool false]) (by simp [results, Tryz.results13, go_sem, z0]) rfl ?_
    rw [HQ.out]
    exact ⟨hez, .inl ⟨mb, rfl⟩⟩
  · have HD3 := Lib.hid ((hdb.mono (G := fun k => w.heap.size < k ∧ k ≠ g7) (fun k h1 h2 => by omega)).ext HX23.out)
    have HOK := Lib.hid hok; have HO3 := Lib.hid (dmL_ok hok)
    have hn02 : n0 ≤ nS := by rw [HLS.out]; exact hn0
    clear hdb hok hn0
    go_wp2_with fail
    go_loopw [9] (fun t wr => ∃ (i b nn : Nat) (M : Dm), i ≤ nU ∧ t = .int .i64 (i : Int) ∧ Hid (M = madeD ss (us.take i)) ∧ DmOk M ∧ nn ≤ nS + i ∧ w.heap.size < b ∧ DbB (fun k => w.heap.size < k ∧ k ≠ g7) wr b nn M ∧ Bk wr g7 26 [.map (some b)] ∧ Fr (fun b => b = g7) w3 wr) (fun t _ => nU - (intOf t).toNat)
    case atStart => exact ⟨0, b, n0, dmL ss, Nat.zero_le _, rfl, Lib.hid rfl, HO3.out, by omega, by omega, HD3.out, HK7.out, Fr.refl _ _⟩
    case round =>
      obtain ⟨i, b, nn, M, hi, rfl, HM, hO, hnn, hbw, hD, hk7, hfr⟩ := hrel
      obtain ⟨W, rfl⟩ : ∃ W : World, W = wr := ⟨_, rfl⟩
      have hxW : Ext w2 W := hfr.new HX23.out (fun b hb => by omega)
      have HXW := Lib.hid (HX2.out.trans hxW); have HO := Lib.hid hO; have HD := Lib.hid hD; have HK := Lib.hid hk7; have HFR := Lib.hid hfr
      have hsW : w3.heap.size ≤ W.heap.size := hfr.size
      have r0 := hk7.cell (i := 0) (by simp)
      simp only [List.getElem_cons_zero] at r0
      by_cases hlt : i < nU
      · have i1 : (0 : Int) ≤ (i : Int) := by omega
        have i2 : (i : Int) < (nU : Int) := by omega
        have hil : i < us.length := by have := HLU.out; omega
        obtain ⟨ad, B, d, rfl, e0, e1, e2, hrow⟩ := HU.out.up hil
        have htk := madeD_take (ss := ss) hil
        rw [← HM.out] at htk
        have hsz := HSZ.out _ (List.getElem_mem hil)
        obtain ⟨u, hu⟩ : ∃ u, u = us[i] := ⟨_, rfl⟩
        rw [← hu] at e0 e1 e2 hrow htk hsz
        obtain ⟨del, rl, x⟩ := u
        simp only at e0 e1 e2 hrow hsz
        obtain ⟨nx, hnx⟩ : ∃ k, k = x.length := ⟨_, rfl⟩
        rw [← hnx] at e2 hrow
        replace e0 := HXW.out.cell e0; replace e1 := HXW.out.cell e1; replace e2 := HXW.out.cell e2
        have HROW := Lib.hid hrow; have HTK := Lib.hid htk; have HNX := Lib.hid hnx
        have hgW : g7 < W.heap.size := by omega
        have hDW := hD.mono (G := fun k => (w.heap.size < k ∧ k ≠ g7) ∧ k < W.heap.size) (fun k h1 h2 => ⟨h2, h1⟩)
        have HAP := Lib.hid (fun (V : World) (hV : Ext W V) (q : Nat) (hq : Bk V q 113 [.bool del, .string rl, .slice B nx d]) => (apply_any (hDW.ext hV) (by omega) HO.out (up_one hq (hrow.ext (HXW.out.trans hV))) (fun u hu => by rw [List.mem_singleton.1 hu]; exact hsz)).mono (fun e w' h => h.step))
        clear hu hrow htk hsz hnx hO hD hk7 hfr hxW hDW
        go_upto_region 7 with fail
        go_cut [10, 12] (fun s10 s12 wx => ∃ (β : Nat) (mb : Option Nat) (er : Int), s10 = .pointer (some ⟨β, 0, none⟩) ∧ s12 = .int .i64 er ∧ Bk wx β 26 [.map mb] ∧ W.heap.size ≤ β ∧ Ext W wx ∧ AR M ⟨del, rl, x⟩ (nn + 1) (fun k => (w.heap.size < k ∧ k ≠ g7) ∧ k < W.heap.size) W.heap.size wx mb er)
        case first =>
          go_region_held3 (fun V => Ext W V ∧ V.cell? ⟨g7, 0, none⟩ = some (.map (some b)) ∧ V.cell? (ad.add (i * 3)) = some (.bool del) ∧ V.cell? ⟨(ad.add (i * 3)).block, (ad.add (i * 3)).off + 1, none⟩ = some (.string rl) ∧ V.cell? ⟨(ad.add (i * 3)).block, (ad.add (i * 3)).off + 2, none⟩ = some (.slice B nx d))
            ((refine (fun he => ⟨he, Ext.cell he r0, Ext.cell he e0, Ext.cell he e1, Ext.cell he e2⟩) ?_; repeat (first | exact Ext.refl _ | exact (Ext.refl _).drew | refine Ext.drew ?_ | refine Ext.alloc ?_ _ | refine Ext.setCell ?_ (by first | exact Nat.le_refl _ | assumption | (simp; done) | omega) _ | assumption | refine Ext.trans ?_ (by assumption))))
            (first
              | (go_at_call 34; (with_reducible refine Calls.mono (HAP.out _ (And.left (by assumption)) _ ?_) ?_); (focus (first | (refine Bk.ext (Bk.new W 113 [.bool del, .string rl, .slice B nx d]) ?_; (repeat (first | exact Ext.refl _ | refine Ext.drew ?_ | refine Ext.alloc ?_ _)); done) | (refine Bk.ext (two_blk W 26 113 [.map none] [.bool del, .string rl, .slice B nx d]).2 ?_; (repeat (first | exact Ext.refl _ | refine Ext.drew ?_ | refine Ext.alloc ?_ _)); done))); rintro e wi ⟨mb, n2, er, rfl, hei, hres⟩; have hen : Ext W wi := (by refine Ext.trans ?_ hei; repeat (first | exact Ext.refl _ | refine Ext.drew ?_ | refine Ext.alloc ?_ _)); have hens := hen.size; (first | (refine (?_ : Ext (W.alloc (.cells #[.map none] 26)) wi → _) ?_; rotate_left 1; (focus (refine Ext.trans ?_ hei; (repeat (first | exact Ext.refl _ | refine Ext.drew ?_ | refine Ext.alloc ?_ _)); done)); intro hq9; have kq := (Bk.new W 26 [.map none]).ext hq9; have q0 := kq.cell (i := 0) (by simp); have f0 := kq.free 0; simp at q0 f0) | (refine (?_ : Ext ((W.alloc (.cells #[.bool del, .string rl, .slice B nx d] 113)).alloc (.cells #[.map none] 26)) wi → _) ?_; rotate_left 1; (focus (refine Ext.trans ?_ hei; (repeat (first | exact Ext.refl _ | refine Ext.drew ?_ | refine Ext.alloc ?_ _)); done)); intro hq9; have kq := (Bk.new (W.alloc (.cells #[.bool del, .string rl, .slice B nx d] 113)) 26 [.map none]).ext hq9; replace kq : Bk wi (W.heap.size + 1) 26 [.map none] := (by simpa using kq); have q0 := kq.cell (i := 0) (by simp); have f0 := kq.free 0; simp at q0 f0) | skip)))
          all_goals
            go_wp2_with fail
            go_meet
            (first
              | exact ⟨_, mb, er, rfl, rfl, Bk.new wi _ _, hens, hen.alloc _, (hres.mono (by first | (simp; done) | (simp; omega))).fr (((Ext.refl wi).alloc _).fr (fun _ => False)) (fun _ h => h.elim)⟩
              | exact ⟨_, mb, er, rfl, rfl, kq.set 0 _, Nat.le_refl _, hen.setCell (p := ⟨W.heap.size, 0, none⟩) (Nat.le_refl _) _, (hres.fr (((Fr.refl (fun k => k = W.heap.size) wi).setCell (p := ⟨W.heap.size, 0, none⟩) (.inl rfl) _)) (fun k h1 => ⟨by omega, by subst h1; first | (simp; done) | (simp; omega)⟩)).mono (by first | (simp; done) | (simp; omega))⟩
              | exact ⟨_, mb, er, rfl, rfl, kq.set 0 _, Nat.le_succ _, hen.setCell (p := ⟨W.heap.size + 1, 0, none⟩) (Nat.le_succ _) _, (hres.fr (((Fr.refl (fun k => k = W.heap.size + 1) wi).setCell (p := ⟨W.heap.size + 1, 0, none⟩) (.inl rfl) _)) (fun k h1 => ⟨by omega, by subst h1; first | (simp; done) | (simp; omega)⟩)).mono (by first | (simp; done) | (simp; omega))⟩)
        case rest =>
          obtain ⟨β, mb, er, rfl, rfl, hkb, hβ, hxz, har⟩ := hcut
          obtain ⟨Z, rfl⟩ : ∃ W : World, W = wc := ⟨_, rfl⟩
          have HKB := Lib.hid hkb; have HXZ := Lib.hid hxz
          have HKZ := Lib.hid (HK.out.ext hxz); have HFZ := Lib.hid (HFR.out.ext hxz); have HDZ := Lib.hid (HD.out.ext hxz)
          rcases har with ⟨h1, h2⟩ | ⟨rfl, g, rfl, hg, hO2, hD2⟩
          · have hb : (er == 0) = false := by simpa using h1
            have HM2 : Hid (M = madeD ss (us.take (i + 1))) := Lib.hid (by rw [HTK.out, h2])
            clear h1 h2 hkb hxz r0 e0 e1 e2
            go_wp2_with fail
            go_roundw
            case rel => exact ⟨i + 1, b, nn, M, by omega, by go_num, HM2, HO.out, by omega, hbw, HDZ.out, HKZ.out, HFZ.out⟩
            case measure => simp [intOf]; omega
          · have HM2 : Hid (stepD M ⟨del, rl, x⟩ = madeD ss (us.take (i + 1))) := Lib.hid HTK.out.symm
            have HO2 := Lib.hid hO2; have HD2 := Lib.hid hD2
            have b0 := hkb.cell (i := 0) (by simp); have f7 := HKZ.out.free 0; have r7 := HKZ.out.cell (i := 0) (by simp)
            simp only [List.getElem_cons_zero] at b0 r7
            clear hkb hxz r0 e0 e1 e2 hO2 hD2
            go_wp2_with fail
            have hst : Fr (fun b => b = g7) Z (Z.setCell ⟨g7, 0, none⟩ (.map (some g))) := (Fr.refl (fun b => b = g7) Z).setCell (p := ⟨g7, 0, none⟩) (.inl rfl) _
            have HST := Lib.hid hst
            clear hst
            go_roundw
            case rel => exact ⟨i + 1, g, nn + 1, _, by omega, by go_num, HM2, HO2.out, by omega, by omega, (HD2.out.mono (G := fun k => w.heap.size < k ∧ k ≠ g7) (fun k _ hk => by omega)).fr HST.out (by omega) (fun k hk => hk.2), HKZ.out.set 0 _, HFZ.out.trans HST.out⟩
            case measure => simp [intOf]; omega
      · obtain rfl : i = nU := by omega
        have hdi : ¬ (i : Int) < (i : Int) := by omega
        have HMM : Hid (M = madeD ss us) := Lib.hid (by
          have h := HM.out
          rwa [List.take_of_length_le (by have := HLU.out; omega)] at h)
        have HKW4 := Lib.hid (HK43.out.fr hfr (by omega))
        clear hO hD hk7 hfr hxW HM r0
        go_wp2_with fail
        obtain ⟨W0, rfl⟩ : ∃ W0 : World, W0 = W := ⟨_, rfl⟩
        go_loopw [13, 14] (fun o t wr => ∃ (i k : Nat) (l : List Fc) (css : List (List Value)), i ≤ nS ∧ t = .int .i64 (i : Int) ∧ Rw rdFc wr W0.heap.size 117 o k l css ∧ Hid (l = factsL M (ss.take i)) ∧ k ≤ i * 4096 ∧ Ext W0 wr) (fun _ t _ => nS - (intOf t).toNat)
        case atStart => exact ⟨0, 0, [], [], Nat.zero_le _, rfl, Rw.empty _ _ _ _, Lib.hid rfl, by omega, Ext.refl _⟩
        case round =>
          obtain ⟨j, k, l, css, hj, rfl, hrw, HE, hk, hx⟩ := hrel
          obtain ⟨Ao, co, rfl⟩ := own_slice hrw.own
          obtain ⟨W1, rfl⟩ : ∃ W : World, W = wr := ⟨_, rfl⟩
          have HRW := Lib.hid hrw; have HX := Lib.hid hx; have HXW1 := Lib.hid (HXW.out.trans hx)
          have hsz1 : W0.heap.size ≤ W1.heap.size := hx.size
          have r0 := (HK.out.ext hx).cell (i := 0) (by simp)
          simp only [List.getElem_cons_zero] at r0
          by_cases hlt : j < nS
          · have i1 : (0 : Int) ≤ (j : Int) := by omega
            have i2 : (j : Int) < (nS : Int) := by omega
            have hil : j < ss.length := by have := HLS.out; omega
            obtain ⟨ad, B, d, rfl, -, e0, e1, -⟩ := HS.out.sc hil
            have htk := factsL_take (M := M) hil
            rw [← HE.out] at htk
            have hnz := (HZ.out _ (List.getElem_mem hil)).1
            have E0w := e0
            replace e0 := HXW1.out.cell e0
            obtain ⟨x, hxx⟩ : ∃ x, x = ss[j] := ⟨_, rfl⟩
            rw [← hxx] at e0 htk hnz E0w
            obtain ⟨nm, ks⟩ := x
            simp only at e0 hnz E0w
            have HE0 := Lib.hid E0w
            clear E0w
            have hrl := rowsOf_le HO.out nm
            have hdw := (HD.out.ext hx).mono (G := fun q => q < W1.heap.size) (fun q h _ => h)
            have HREL := Lib.hid (fun (V : World) (hV : Ext W1 V) => (relation_any ((hdw.ext hV)) hnz).mono (fun e w' h => h.one))
            obtain ⟨rows, hrows⟩ : ∃ r, r = rowsOf M nm := ⟨_, rfl⟩
            have hfo : factsOf M ⟨nm, ks⟩ = rows.map (fun r => ⟨nm, r⟩) := by rw [hrows]; rfl
            rw [hfo] at htk
            rw [← hrows] at HREL hrl
            obtain ⟨nr, hnr⟩ : ∃ r, r = rows.length := ⟨_, rfl⟩
            rw [← hnr] at HREL hrl
            have hnr4 := hrl.1
            have HRR := Lib.hid hrl.2; have HTK := Lib.hid htk; have HNR := Lib.hid hnr
            clear hxx hnz e1 htk hrl hrows hnr hfo hrw hx hdw
            go_upto_region 14 with fail
            go_cut [15] (fun s15 wx => ∃ (β : Nat) (ra : Int) (A : Option Addr) (c : Nat), s15 = .pointer (some ⟨β, 0, none⟩) ∧ Bk wx β 54 [.int .i64 ra, .slice A nr c] ∧ W1.heap.size ≤ β ∧ Ext W1 wx ∧ Sl rdRow (fun q => q < W1.heap.size) wx (.slice A nr c) rows)
            case first =>
              go_region_held3 (fun V => Ext W1 V ∧ V.cell? ⟨g7, 0, none⟩ = some (.map (some b)) ∧ V.cell? (ad.add (j * 2)) = some (.string nm))
                ((refine (fun he => ⟨he, Ext.cell he r0, Ext.cell he e0⟩) ?_; repeat (first | exact Ext.refl _ | exact (Ext.refl _).drew | refine Ext.drew ?_ | refine Ext.alloc ?_ _ | refine Ext.setCell ?_ (by first | exact Nat.le_refl _ | assumption | (simp; done) | omega) _ | assumption | refine Ext.trans ?_ (by assumption))))
                (first
                  | (go_at_call 35; (with_reducible refine (HREL.out _ (And.left (by assumption))).mono ?_); rintro e wi ⟨ra, A, c, ok, rfl, hei, hres⟩; have hen : Ext W1 wi := (by refine Ext.trans ?_ hei; repeat (first | exact Ext.refl _ | refine Ext.drew ?_ | refine Ext.alloc ?_ _)); have hens := hen.size; (first | ((refine (?_ : Ext (W1.alloc (.cells #[.int .i64 0, .slice none 0 0] 54)) wi → _) ?_; rotate_left 1; (focus (refine Ext.trans ?_ hei; (repeat (first | exact Ext.refl _ | refine Ext.drew ?_ | refine Ext.alloc ?_ _)); done)); intro hq9; have kq := (Bk.new W1 54 [.int .i64 0, .slice none 0 0]).ext hq9; have q0 := kq.cell (i := 0) (by simp); have q1 := kq.cell (i := 1) (by simp); have f0 := kq.free 0; have f1 := kq.free 1; simp at q0 q1 f0 f1)) | skip)))
              all_goals
                go_wp2_with fail
                go_meet
                (first
                  | exact ⟨_, ra, A, c, rfl, Bk.new wi _ _, hens, hen.alloc _, hres.ext ((Ext.refl wi).alloc _)⟩
                  | exact ⟨_, ra, A, c, rfl, (kq.set 0 _).set 1 _, Nat.le_refl _, (hen.setCell (p := ⟨W1.heap.size, 0, none⟩) (Nat.le_refl _) _).setCell (p := ⟨W1.heap.size, 1, none⟩) (Nat.le_refl _) _, hres.fr (((Fr.refl (fun q => q = W1.heap.size) wi).setCell (p := ⟨W1.heap.size, 0, none⟩) (.inl rfl) _).setCell (p := ⟨W1.heap.size, 1, none⟩) (.inl rfl) _) (fun q hq e => by omega)⟩)
            case rest =>
              obtain ⟨β, ra, A, c, rfl, hkb, hβ, hxz, hsl⟩ := hcut
              obtain ⟨Z, rfl⟩ : ∃ W : World, W = wc := ⟨_, rfl⟩
              have z0 := hkb.cell (i := 0) (by simp); have z1 := hkb.cell (i := 1) (by simp)
              simp only [List.getElem_cons_zero, List.getElem_cons_succ] at z0 z1
              have HROWS := Lib.hid (rows_any (a := ra) hsl HRR.out (by omega))
              have HXZ := Lib.hid hxz
              have hszZ : W1.heap.size ≤ Z.heap.size := hxz.size
              clear hkb hsl hxz r0 e0
              go_wp2_with fail
              refine HROWS.out.mono ?_
              rintro e w9 ⟨he9, g, us2, hg, rfl, how⟩
              have hsz9 : Z.heap.size ≤ w9.heap.size := he9.size
              have HRS := Lib.hid ((how.sl (G := fun q => Z.heap.size < q) (fun q hq => by have h : g = q := Option.some.inj hq; omega) (fun q hq => by omega)).mono (G := fun q => Z.heap.size < q ∧ q < w9.heap.size) (by decide) (fun q h hq => ⟨hq, h⟩))
              have HX9 := Lib.hid (HX.out.trans (HXZ.out.trans he9)); have HRW9 := Lib.hid (HRW.out.ext (HXZ.out.trans he9))
              have HOWL : Hid (∀ q, (Value.slice Ao k co).ownBlock = some q → W0.heap.size ≤ q ∧ q < W1.heap.size) := Lib.hid (fun q hq => HRW.out.own.lt q hq)
              have hgl : g < w9.heap.size := (how.own.lt g rfl).2
              clear he9 how z0 z1
              go_wp2_with fail
              go_loopw [13, 18] (fun o t wr => ∃ (p k2 : Nat) (l2 : List Fc) (css2 : List (List Value)), p ≤ nr ∧ t = .int .i64 (p : Int) ∧ Rw rdFc wr W0.heap.size 117 o k2 l2 css2 ∧ Hid (l2 = l ++ (rows.take p).map (fun r => ⟨nm, r⟩)) ∧ k2 ≤ k + p ∧ Hid (∀ q, o.ownBlock = some q → q < Z.heap.size ∨ w9.heap.size ≤ q) ∧ Fr (fun q => W0.heap.size ≤ q ∧ q < Z.heap.size) w9 wr) (fun _ t _ => nr - (intOf t).toNat)
              case atStart => exact ⟨0, k, l, css, Nat.zero_le _, rfl, HRW9.out, Lib.hid (by simp), by omega, Lib.hid (fun q hq => .inl (by have := (HOWL.out q hq).2; omega)), Fr.refl _ _⟩
              case round =>
                obtain ⟨p, k2, l2, css2, hp, rfl, hrw2, HE2, hk2, HOB, hfr2⟩ := hrel
                obtain ⟨Ap, cp, rfl⟩ := own_slice hrw2.own
                obtain ⟨W2, rfl⟩ : ∃ W : World, W = wr := ⟨_, rfl⟩
                have hx2 : Ext W0 W2 := hfr2.new HX9.out (fun q hq => hq.1)
                have HRW2 := Lib.hid hrw2; have HX2 := Lib.hid hx2; have HFR2 := Lib.hid hfr2
                have hsz2 : w9.heap.size ≤ W2.heap.size := hfr2.size
                by_cases hpl : p < nr
                · have p1 : (0 : Int) ≤ (p : Int) := by omega
                  have p2 : (p : Int) < (nr : Int) := by omega
                  have hpr : p < rows.length := by have := HNR.out; omega
                  have hrs2 := HRS.out.fr hfr2 (fun q hq e => by omega)
                  obtain ⟨ag, C, d3, hag, -, c0, hrow⟩ := hrs2.row hpr
                  injection hag with hag
                  subst hag
                  have e0 := (HXW.out.trans hx2).cell HE0.out
                  have htk2 : rows.take (p + 1) = rows.take p ++ [rows[p]] := List.take_succ_eq_append_getElem hpr
                  obtain ⟨x, hxx⟩ : ∃ x, x = rows[p] := ⟨_, rfl⟩
                  rw [← hxx] at c0 hrow htk2
                  have HE8 : Hid (l2 ++ [⟨nm, x⟩] = l ++ (rows.take (p + 1)).map (fun r => ⟨nm, r⟩)) := Lib.hid (by rw [htk2, HE2.out]; simp)
                  obtain ⟨lx, hlx⟩ : ∃ k, k = x.length := ⟨_, rfl⟩
                  rw [← hlx] at c0 hrow
                  have hwZ : W0.heap.size ≤ Z.heap.size := by omega
                  have HXR : Hid (Sl rdVl (fun q => W0.heap.size ≤ q ∧ (Value.slice Ap k2 cp).ownBlock ≠ some q) W2 (.slice C lx d3) x) := Lib.hid (hrow.mono (by decide) (fun q _ hq => ⟨by omega, fun e => by have := HOB.out q e; omega⟩))
                  have c0' := c0
                  rw [add_own] at c0'
                  clear hrs2 hrow hxx hlx htk2 hrw2 hfr2 hx2
                  go_upto_region 19 with fail
                  go_region_law ((refine step_append_at (by rfl) _ _ _ (by rfl) W0.heap.size 117 i0 (.agg #[.string ⟨#[]⟩, .slice none 0 0]) 2 40 Tryz.underlying63 HI0.out.1 HI0.out.2.1 HI0.out.2.2.1 HI0.out.2.2.2 rfl (by omega) (.slice Ap k2 cp) k2 css2.flatten (by rfl) (by exact own_ext' HRW2.out.own ((Ext.refl W2).alloc _).drew) ⟨W2.heap.size, 0, none⟩ 1 1 [.string nm, .slice C lx d3] (by rfl) (by rfl) (by exact fun j u h => (Ext.refl _).drew.cell (laid_news W2 _ _ j u h)) (by simp [Value.oneCell']) (by simp only [maxLen]; omega) (by omega) (by simp; omega) ?_; intro v8 w8 hr8 hg8 hl8; obtain ⟨A8, c8, e8⟩ := own_slice hr8; subst e8; have hxa := ((Ext.refl W2).alloc (.cells #[.string nm, .slice C lx d3] 117)).drew; have HRW8 := Lib.hid (Rw.more (x := (⟨nm, x⟩ : Fc)) HRW2.out hxa ⟨_, rfl, HXR.out.ext hxa⟩ hr8 hg8 hl8); have HFR8 := Lib.hid ((HFR2.out.ext hxa).grown hg8 (fun q hq => by have h1 := HOB.out q hq; have h2 := (HRW2.out.own.lt q hq).1; omega)); have HOB8 : Hid (∀ q, (Value.slice A8 (k2 + 1) c8).ownBlock = some q → q < Z.heap.size ∨ w9.heap.size ≤ q) := Lib.hid (fun q hq => by rcases hl8 with h | h; (rw [h] at hq; exact HOB.out q hq); (rw [h] at hq; injection hq with hq; simp at hq; omega)); clear hxa hr8 hg8 hl8))
                  all_goals
                    go_wp2_with fail
                    go_roundw
                    case rel => exact ⟨p + 1, k2 + 1, _, _, by omega, by go_num, HRW8.out, HE8, by omega, HOB8, HFR8.out⟩
                    case measure => simp [intOf]; omega
                · obtain rfl : p = nr := by omega
                  have hdp : ¬ (p : Int) < (p : Int) := by omega
                  have HE3 : Hid (l2 = factsL M (ss.take (j + 1))) := Lib.hid (by
                    rw [HTK.out, HE2.out, List.take_of_length_le (by have := HNR.out; omega)])
                  clear hrw2 hfr2 hx2
                  go_wp2_with fail
                  go_roundw
                  case rel => exact ⟨j + 1, k2, l2, css2, by omega, by go_num, HRW2.out, HE3, by omega, HX2.out⟩
                  case measure => simp [intOf]; omega
          · obtain rfl : j = nS := by omega
            have hdj : ¬ (j : Int) < (j : Int) := by omega
            have HLL : Hid (l = factsL (madeD ss us) ss) := Lib.hid (by
              rw [HE.out, ← HMM.out, List.take_of_length_le (by have := HLS.out; omega)])
            have HSF := Lib.hid ((hrw.sl (by decide)))
            have hlw : w.heap.size < W0.heap.size := by omega
            have r4 := (HKW4.out.ext hx).cell (i := 0) (by simp); have f4 := (HKW4.out.ext hx).free 0
            simp only [List.getElem_cons_zero] at r4
            have HK41 := Lib.hid (HKW4.out.ext hx); have HD1 := Lib.hid (HD.out.ext hx)
            clear hrw hx
            go_wp2_with fail
            have kz : Bk (W1.setCell ⟨w.heap.size, 0, none⟩ (.map (some b))) w.heap.size 26 [.map (some b)] := HK41.out.set 0 _
            have hst : Fr (fun q => q = w.heap.size) W1 (W1.setCell ⟨w.heap.size, 0, none⟩ (.map (some b))) := (Fr.refl (fun q => q = w.heap.size) W1).setCell (p := ⟨w.heap.size, 0, none⟩) (.inl rfl) _
            generalize (W1.setCell ⟨w.heap.size, 0, none⟩ (.map (some b))) = wz at *
            have z0 := kz.cell (i := 0) (by simp)
            simp only [List.getElem_cons_zero] at z0
            refine bodyPost_ret (v := .tuple #[.agg #[.map (some b)], .slice Ao k co, .bool true]) (by simp [results, Tryz.results13, go_sem, z0]) rfl ?_
            rw [HQ.out]
            refine ⟨hst.new HXW1.out (fun q hq => by omega), .inr ⟨b, nn, Ao, k, co, rfl, ?_, ?_, ?_, HOK.out, ?_⟩⟩
            · rw [← HMM.out]
              exact (HD1.out.fr hst (by omega) (fun q hq e => by omega)).mono (fun _ _ _ => trivial)
            · have := HLS.out; have := HLU.out; omega
            · rw [← HMM.out]
              exact HO.out
            · rw [← HLL.out]
              exact (HSF.out.fr hst (fun q hq e => by omega)).mono (by decide) (fun q _ hq => by omega)
end Go.Proofs.YtmmmdinncmbjkaaGreat
