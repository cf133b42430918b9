/- Contracts: slices.symMergeCmpFunc, stableCmpFunc, SortStableFunc at rows: the rows are permuted. -/
import Derived.Test.YtjpkaljndfgkjaaGg
import Derived.Test.YtjpkaljndfgkjaaXi
namespace Go.Proofs.Ytjpkaljndfgkjaa.R
open Go.RowKit Go.Maps Go.Sort Go.Shelf Go.Lib
open Go.Proofs (Row1 SW CmpLays1 OneCell)

section
variable {α : Type} [Inhabited α] {enc : α → Value} {w0 : World} {blk off : Nat} {d0 : Array α}
theorem symMerge_any {cap cg : Nat} {cb : Array Value} {cf : α → α → Int} (R : Row1 enc w0 blk off d0) (eg : ∀ args w, (callFunc cg args).run Try.prog w = .ok (.enter cg args) w) (hC : CmpLays1 Try.prog cg cb enc cf blk off d0.size w0) (hsz : d0.size ≤ 1048576) : ∀ (N : Nat) {w : World} {a m b : Nat}, b - a < N → SP enc w0 blk off d0 w → a < m → m < b → b ≤ d0.size →
    Calls Try.prog 77 #[.slice (some ⟨blk, off, none⟩) d0.size cap, .int .i64 (a : Int), .int .i64 (m : Int), .int .i64 (b : Int), .func (.func cg) #[] cb] w (fun e w' => e = .returned (.tuple #[]) ∧ SP enc w0 blk off d0 w')
  | 0, w, a, m, b, hN, _, ha, hm, _ => by omega
  | N + 1, w, a, m, b, hN, hS, ha, hm, hb => by
    have HREC := fun (k : Nat) (hk : k ≤ N) => Lib.hid (fun (V : World) (a2 m2 b2 : Nat) (h1 : b2 - a2 < k) (hV : SP enc w0 blk off d0 V) (h2 : a2 < m2) (h3 : m2 < b2) (h4 : b2 ≤ d0.size) => symMerge_any (cap := cap) R eg hC hsz N (by omega) hV h2 h3 h4)
    have HROT := Lib.hid (fun (V : World) (a2 m2 b2 : Nat) (hV : SP enc w0 blk off d0 V) (h2 : a2 < m2) (h3 : m2 < b2) (h4 : b2 ≤ d0.size) => rotate_any (cap := cap) (fv := .func (.func cg) #[] cb) R hV h2 h3 h4 hsz)
    by_cases h1 : m = a + 1
    · exact symA R eg hC hsz hS h1 hm hb
    · by_cases h2 : b = m + 1
      · exact symB R eg hC hsz hS h2 ha h1 hb
      · by_cases h3 : (a + b) / 2 < m
        · exact symC1 (md := (a + b) / 2) (n := (a + b) / 2 + m) R eg hC hsz hS ha hm hb h1 h2 (by omega) (by omega) (by omega) (by omega) (by omega) h3 rfl (HREC (b - a) (by omega)) HROT
        · exact symC2 (md := (a + b) / 2) (n := (a + b) / 2 + m) R eg hC hsz hS ha hm hb h1 h2 (by omega) (by omega) (by omega) (by omega) (by omega) h3 rfl (HREC (b - a) (by omega)) HROT
theorem ins_any {w : World} {cap cg a b : Nat} {cb : Array Value} {cf : α → α → Int} (R : Row1 enc w0 blk off d0) (eg : ∀ args w, (callFunc cg args).run Try.prog w = .ok (.enter cg args) w) (hC : CmpLays1 Try.prog cg cb enc cf blk off d0.size w0) (hL : SWO (Go.Proofs.ltOf cf)) (hS : SP enc w0 blk off d0 w) (hab : a ≤ b) (hb : b ≤ d0.size) (hsz : d0.size ≤ 1048576) :
    Calls Try.prog 76 #[.slice (some ⟨blk, off, none⟩) d0.size cap, .int .i64 (a : Int), .int .i64 (b : Int), .func (.func cg) #[] cb] w (fun e w' => e = .returned (.tuple #[]) ∧ SP enc w0 blk off d0 w') := by
  obtain ⟨dk, hs, hp, S⟩ := hS
  have h := Go.Proofs.Any.insertionSortCmpFunc_s Try.layInsRow enc cf cg cb blk off cap a b d0 dk w0 w eg hC R hs.symm S hab (by omega) (by omega)
  change Calls Try.prog 76 _ _ _ at h
  rw [hs] at h
  refine h.mono ?_
  rintro e w' ⟨rfl, h2⟩
  have h3 := (Go.Sort.insertionSort_holds hL dk a b hab (by omega)).1
  exact ⟨rfl, _, by rw [h3.1, hs], Go.Sort.permIn_trans _ _ _ _ _ hp (Go.Sort.permIn_mono _ _ _ _ _ _ (Nat.zero_le _) hb (by omega) h3), h2⟩
set_option maxRecDepth 20000 in
set_option maxHeartbeats 3200000 in
theorem stable_any {w : World} {cap cg : Nat} {cb : Array Value} {cf : α → α → Int} (R : Row1 enc w0 blk off d0) (eg : ∀ args w, (callFunc cg args).run Try.prog w = .ok (.enter cg args) w) (hC : CmpLays1 Try.prog cg cb enc cf blk off d0.size w0) (hL : SWO (Go.Proofs.ltOf cf)) (hS : SP enc w0 blk off d0 w) (hsz : d0.size ≤ 1048576) :
    Calls Try.prog 70 #[.slice (some ⟨blk, off, none⟩) d0.size cap, .int .i64 (d0.size : Int), .func (.func cg) #[] cb] w (fun e w' => e = .returned (.tuple #[]) ∧ SP enc w0 blk off d0 w') := by
  have HINS := Lib.hid (fun (V : World) (a2 b2 : Nat) (hV : SP enc w0 blk off d0 V) (h1 : a2 ≤ b2) (h2 : b2 ≤ d0.size) => ins_any (cap := cap) R eg hC hL hV h1 h2 hsz)
  have HSYM := Lib.hid (fun (V : World) (a2 m2 b2 : Nat) (hV : SP enc w0 blk off d0 V) (h1 : a2 < m2) (h2 : m2 < b2) (h3 : b2 ≤ d0.size) => symMerge_any (cap := cap) R eg hC hsz (b2 - a2 + 1) (by omega) hV h1 h2 h3)
  obtain ⟨n, hn⟩ : ∃ q, q = d0.size := ⟨_, rfl⟩
  rw [← hn] at hsz HINS HSYM ⊢
  have HS := Lib.hid hS
  clear hS hn hC hL
  go_enter Try.func70, Try.ntmps70
  go_wp2_with fail
  go_loopw [7, 8] (fun s t wr => ∃ a : Nat, a ≤ n ∧ s = .int .i64 (a : Int) ∧ t = .int .i64 ((a : Int) + 20) ∧ Hid (SP enc w0 blk off d0 wr)) (fun s _ _ => n - (intOf s).toNat)
  case atStart => exact ⟨0, Nat.zero_le _, rfl, rfl, HS⟩
  case round =>
    obtain ⟨a, ha, rfl, rfl, HP⟩ := hrel
    obtain ⟨W, rfl⟩ : ∃ W : World, W = wr := ⟨_, rfl⟩
    clear HS
    by_cases hlt : (a : Int) + 20 ≤ (n : Int)
    · have e1 : (a : Int) + 20 = ((a + 20 : Nat) : Int) := by omega
      have E1 := Lib.hid e1
      clear e1
      go_wp2_with fail
      rw [E1.out]
      refine (HINS.out _ a (a + 20) HP.out (by omega) (by omega)).mono ?_
      rintro e w1 ⟨rfl, hq⟩
      have HQ := Lib.hid hq
      clear hq
      rw [← E1.out]
      go_wp2_with fail
      go_roundw
      case rel => exact ⟨a + 20, by omega, by go_num, by first | rfl | go_num | (congr 1; omega), HQ⟩
      case measure => simp [intOf]; omega
    · go_wp2_with fail
      refine (HINS.out _ a n HP.out ha (by omega)).mono ?_
      rintro e w1 ⟨rfl, hq⟩
      have HS := Lib.hid hq
      clear hq HP
      go_wp2_with fail
      go_loopw [6] (fun s wr => ∃ b : Nat, 1 ≤ b ∧ b ≤ 2097152 ∧ s = .int .i64 (b : Int) ∧ Hid (SP enc w0 blk off d0 wr)) (fun s _ => 2097152 - (intOf s).toNat)
      case atStart => exact ⟨20, by omega, by omega, rfl, HS⟩
      case round =>
        obtain ⟨b, hb1, hb2, rfl, HP⟩ := hrel
        obtain ⟨W2, rfl⟩ : ∃ W : World, W = wr := ⟨_, rfl⟩
        clear HS
        by_cases hbn : b < n
        · have hbI : (b : Int) < (n : Int) := by omega
          go_wp2_with fail
          go_loopw [7, 8] (fun s t wr => ∃ c : Nat, c ≤ n ∧ s = .int .i64 (c : Int) ∧ t = .int .i64 ((c : Int) + 2 * (b : Int)) ∧ Hid (SP enc w0 blk off d0 wr)) (fun s _ _ => n - (intOf s).toNat)
          case atStart => exact ⟨0, Nat.zero_le _, rfl, by first | rfl | go_num | (congr 1; omega), HP⟩
          case round =>
            obtain ⟨c, hc, rfl, rfl, HR⟩ := hrel
            obtain ⟨W3, rfl⟩ : ∃ W : World, W = wr := ⟨_, rfl⟩
            clear HP
            have e1 : (c : Int) + (b : Int) = ((c + b : Nat) : Int) := by omega
            have e2 : (c : Int) + 2 * (b : Int) = ((c + 2 * b : Nat) : Int) := by omega
            have E1 := Lib.hid e1; have E2 := Lib.hid e2
            clear e1 e2
            by_cases hcn : (c : Int) + 2 * (b : Int) ≤ (n : Int)
            · go_wp2_with fail
              rw [E1.out, E2.out]
              refine (HSYM.out _ c (c + b) (c + 2 * b) HR.out (by omega) (by omega) (by omega)).mono ?_
              rintro e w4 ⟨rfl, hq⟩
              have HQ := Lib.hid hq
              clear hq
              rw [← E1.out, ← E2.out]
              go_wp2_with fail
              go_roundw
              case rel => exact ⟨c + 2 * b, by omega, by rw [E2.out], by first | rfl | go_num | (congr 1; omega), HQ⟩
              case measure => simp [intOf]; omega
            · by_cases hm : (c : Int) + (b : Int) < (n : Int)
              · go_wp2_with fail
                rw [E1.out]
                refine (HSYM.out _ c (c + b) n HR.out (by omega) (by omega) (by omega)).mono ?_
                rintro e w4 ⟨rfl, hq⟩
                have HQ := Lib.hid hq
                clear hq
                rw [← E1.out]
                go_wp2_with fail
                go_roundw
                case rel => exact ⟨b * 2, by omega, by omega, by first | rfl | go_num | (congr 1; omega), HQ⟩
                case measure => simp [intOf]; omega
              · go_wp2_with fail
                go_roundw
                case rel => exact ⟨b * 2, by omega, by omega, by first | rfl | go_num | (congr 1; omega), HR⟩
                case measure => simp [intOf]; omega
        · have hbI : ¬ (b : Int) < (n : Int) := by omega
          go_wp2_with fail
          go_end0
          exact ⟨rfl, HP.out⟩
theorem sortStable_any {w : World} {cap cg : Nat} {cb : Array Value} {cf : α → α → Int} (R : Row1 enc w0 blk off d0) (eg : ∀ args w, (callFunc cg args).run Try.prog w = .ok (.enter cg args) w) (hC : CmpLays1 Try.prog cg cb enc cf blk off d0.size w0) (hL : SWO (Go.Proofs.ltOf cf)) (hS : SP enc w0 blk off d0 w) (hsz : d0.size ≤ 1048576) :
    Calls Try.prog 53 #[.slice (some ⟨blk, off, none⟩) d0.size cap, .func (.func cg) #[] cb] w (fun e w' => e = .returned (.tuple #[]) ∧ SP enc w0 blk off d0 w') := by
  have H := Lib.hid (stable_any (cap := cap) R eg hC hL hS hsz)
  obtain ⟨n, hn⟩ : ∃ q, q = d0.size := ⟨_, rfl⟩
  rw [← hn] at H hsz ⊢
  clear hS hn hC hL
  go_enter Try.func53, Try.ntmps53
  go_wp2_with fail
  refine H.out.mono ?_
  rintro e w1 ⟨rfl, hq⟩
  have HQ := Lib.hid hq
  clear hq
  go_wp2_with fail
  go_end0
  exact ⟨rfl, HQ.out⟩
end
end Go.Proofs.Ytjpkaljndfgkjaa.R
