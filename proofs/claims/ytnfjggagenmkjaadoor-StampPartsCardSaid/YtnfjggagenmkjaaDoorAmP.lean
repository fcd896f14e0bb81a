/- Each operation of the interpreter is the machine's: all of them. -/
import Derived.Test.YtnfjggagenmkjaaDoorAmO
set_option linter.unusedSimpArgs false
set_option maxHeartbeats 1000000
namespace Go.Proofs.YtnfjggagenmkjaaDoor.AM
open Go

variable {P : Program} {G : World → Prop} {ng : Nat} {base : Nat} {pb : Option Nat} {w0 w w' : World} {e : Env} {a : Act}
variable {K : Env → Option Out} {r : Out} {next : Act → World → Prop} {Q : Exit → Act → World → Prop} {o : Oper}

/-- What an operation of the interpreter tells of the machine's. -/
def Told (P : Program) (base : Nat) (pb : Option Nat) (w0 w : World) (e : Env) (a : Act) (o : Oper) (K : Env → Option Out) (r : Out) : Prop :=
  Pure1 P base pb w e a K r o ∨ (simpleE P e o = false ∧ ∀ (next : Act → World → Prop) (Q : Exit → Act → World → Prop), Nx P base pb w0 w e a o K r next → o.wp P a w next Q)
theorem Told.wp (ht : Told P base pb w0 w e a o K r) (h : Sim P base pb w0 w e a.tmps) (hn : Nx P base pb w0 w e a o K r next) : o.wp P a w next Q := by
  rcases ht with ht | ⟨-, ht⟩
  · exact ht.wp h hn
  · exact ht next Q hn
theorem told_load (h : Sim P base pb w0 w e a.tmps) {t : TypeId} {x : Operand} (ho : o.op = .load t x) {s off T : Nat} (hx : ev e x = .via s off) {y : Xs} (hy : e.getD s .u = .box T y) (hc1 : cell1 P t = false) (hc : isAggB P t = some true) {c : C} (hp : partC P t y off = some c) (hK : K (putO e o.dst (.c c)) = some r) : Pure1 P base pb w e a K r o := by
  unfold partC at hp
  rw [hc1, hc] at hp
  dsimp only at hp
  split at hp
  · rename_i hb
    cases hp
    refine op_loadA h ho hx hy hc (c := .ss ((y.toS.drop off).take (P.cellsOf t))) ?_ ?_ hK
    · have := Nat.le_of_ble_eq_true hb; rwa [Xs.len_toS] at this
    · simp [Xs.enc, Xs.toS, List.map_take, List.map_drop]
  · cases hp
theorem toS_len_le (x : Xs) : x.toS.length = x.len := Xs.len_toS x

/-- A store. -/
theorem store_told {Γ : Gam} {nn : Nat} (h : Sim P base pb w0 w e a.tmps) {t : TypeId} {x v : Operand} (hop : o.op = .store t x v) (hK : opK P Γ nn e o K = some r) {next : Act → World → Prop} {Q : Exit → Act → World → Prop} (hn : NxS P base pb w0 w a o K r next x) : o.wp P a w next Q := by
  unfold opK at hK
  rw [hop] at hK
  dsimp only at hK
  split at hK
  · rename_i s off c hd hx hv
    split at hK
    · rename_i T y c hs hc
      split at hK
      · rename_i z hz
        cases hdd : decide (off < y.len)
        · rw [hdd] at hK; cases hK
        · rw [hdd] at hK; exact op_storeB h hn hop hd hx hs hv hc hz (by simpa using hdd) hK
      · cases hK
    · rename_i y c hs hc
      split at hK
      · rename_i z hz
        cases hdd : decide (off < y.len)
        · rw [hdd] at hK; cases hK
        · rw [hdd] at hK; exact op_storeO h hn hop hd hx hs hv hc hz (by simpa using hdd) hK
      · cases hK
    · rename_i T y c hs hc
      split at hK
      · rename_i hag hl
        have hl : c.len = P.cellsOf t := by rw [← Xs.len_toS]; simpa using hl
        have hr := h.rel s
        rw [hs] at hr
        obtain ⟨b, -, -, h3⟩ := hr
        split at hK
        · rename_i hT
          have hT : T = t := by simpa using hT
          subst hT
          refine op_storeA h hn hop hd hx hs hv hag hl (by omega) ?_ hK
          rw [lay_seg _ _ _ (by simp [Xs.len_enc]; omega)]
          have e1 : 0 + c.enc.length = y.enc.length := by rw [Xs.len_enc, Xs.len_enc]; omega
          rw [e1]; simp
        · split at hK
          · rename_i z hb hz
            have hb := Nat.le_of_ble_eq_true hb
            rw [Xs.len_toS, Xs.len_toS] at hb
            exact op_storeA h hn hop hd hx hs hv hag hl hb (by rw [(Xs.lay_some hz).1]; rfl) hK
          · cases hK
      · cases hK
    · cases hK
  · cases hK
theorem opK_told {Γ : Gam} {nn : Nat} (hΓ : ∀ g, FnOk P G ng Γ g) (hG : G w) (hng : ng ≤ base ∧ ∀ b, pb = some b → ng ≤ b) (h : Sim P base pb w0 w e a.tmps) (hK : opK P Γ nn e o K = some r) : Told P base pb w0 w e a o K r := by
  unfold opK at hK
  cases hop : o.op with
  | move x =>
    rw [hop] at hK
    dsimp only at hK
    cases x with
    | tmp t =>
      dsimp only at hK
      split at hK
      · rename_i l ht hd
        split at hK
        · rename_i hl; exact .inl (op_moveT0 h hop ht hl hK)
        · rename_i hl; refine .inr ⟨by simp only [simpleE, hop, ht, hl], fun next Q hn => op_moveT h hn hop ht (by simpa using hd) hK⟩
      · exact .inl (op_move h hop hK)
    | _ => exact .inl (op_move h hop hK)
  | assign x =>
    rw [hop] at hK
    dsimp only at hK
    split at hK
    · rename_i d hd
      by_cases hs : simpleE P e o = false
      · exact .inr ⟨hs, fun next Q hn => op_assign h hn hop hd hK⟩
      · simp only [simpleE, hop] at hs
        split at hs
        · rename_i c hc
          rw [hc] at hK
          have hrel := ev_rel h x
          rw [hc] at hrel
          exact .inl (pureA (x := .c c) (v := a.eval x) (by rw [hd]; exact hK) (fun _ _ => by simp only [execOp, hop]; rfl) hrel.1 hrel.2)
        · exact absurd rfl hs
    · cases hK
  | pick c x y =>
    rw [hop] at hK
    dsimp only at hK
    split at hK
    · rename_i t hc; exact .inl (op_pick h hop hc hK)
    · cases hK
  | binOp op t x y t' =>
    rw [hop] at hK
    dsimp only at hK
    split at hK
    · rename_i p q hx hy
      split at hK
      · rename_i ht; exact .inl (op_bool h hop hx hy ht (.inl rfl) hK)
      · rename_i ht; exact .inl (op_bool h hop hx hy ht (.inr rfl) hK)
      · cases hK
    · rename_i p q _ hx hy; exact .inl (op_bin h hop hx hy hK)
    · rename_i p q hx hy
      split at hK
      · rename_i b hb; exact .inl (op_binAgg h hop hx hy hb (.inl rfl) hK)
      · rename_i b hb; exact .inl (op_binAgg h hop hx hy hb (.inr rfl) hK)
      · cases hK
    · cases hK
  | unOp op t x =>
    rw [hop] at hK
    dsimp only at hK
    split at hK
    · rename_i p hx
      split at hK
      · rename_i q hq; exact .inl (op_un h hop hx hq hK)
      · cases hK
    · cases hK
  | convert s d x =>
    rw [hop] at hK
    dsimp only at hK
    split at hK
    · rename_i ds k k' n hs hd hx; exact .inl (op_convI h hop hs hd hx hK)
    · rename_i ds k' n hs hd hx; exact .inl (op_convR h hop hs hd hx hK)
    · rename_i ds l hs hd hx; exact .inl (op_convS h hop hs hd hx hK)
    · rename_i ds t l hs hd hx
      split at hK
      · rename_i ht
        exact .inr ⟨by simp only [simpleE, hop, hd], fun next Q hn => op_convO h hn hop hs hd ht hx hK⟩
      · cases hK
    · rename_i t _ _ hs hd _ _
      split at hK
      · rename_i s' ht hx
        split at hK
        · rename_i y hy
          split at hK
          · rename_i l hl
            refine .inl (op_convB h hop hs hd ht (lo := 0) (n := y.len) (.inl ⟨hx, hy, rfl, rfl⟩) (contentB_of hy) ?_ hK)
            have : y.cut 0 y.len = y := by cases y <;> simp [Xs.cut, Xs.len]
            rw [this]; exact hl
          · cases hK
        · cases hK
      · rename_i s' lo n ht hx
        split at hK
        · rename_i y hy
          split at hK
          · rename_i l hl; exact .inl (op_convB h hop hs hd ht (.inr hx) hy hl hK)
          · cases hK
        · cases hK
      · rename_i ht hx; exact .inl (op_convN h hop hs hd ht hx hK)
      · cases hK
    · cases hK
  | index t x i =>
    rw [hop] at hK
    dsimp only at hK
    split at hK
    · rename_i l k n ht hx hi; exact .inl (op_indexS h hop ht hx hi hK)
    · rename_i m el l k n ht hx hi
      split at hK
      · rename_i hc; exact .inl (op_indexA h hop ht hx hi hc hK)
      · cases hK
    · cases hK
  | slice t x lo hi mx =>
    rw [hop] at hK
    cases mx with
    | some m => cases hK
    | none =>
      dsimp only at hK
      split at hK
      · rename_i i j h1 h2
        split at hK
        · rename_i l ht hx; exact .inl (op_sliceS h hop ht hx h1 h2 hK)
        · rename_i el s ht hx
          split at hK
          · rename_i y hc hy; exact .inl (op_sliceAll h hop ht hc hx hy h1 h2 hK)
          · cases hK
        · rename_i el s lo0 n ht hx
          split at hK
          · rename_i hc; exact .inl (op_sliceAli h hop ht hc hx h1 h2 hK)
          · cases hK
        · rename_i el ht hx
          split at hK
          · rename_i hc; exact .inl (op_sliceNil h hop ht ⟨1, fun w => run_sizeOf1 hc w⟩ hx h1 h2 hK)
          · cases hK
        · rename_i m el s off ht hx
          split at hK
          · rename_i T y hc hy
            cases hd : decide (off + m ≤ y.len)
            · rw [hd] at hK; cases hK
            · rw [hd] at hK
              exact .inl (op_sliceArr h hop ht hc hx hy (by simpa using hd) h1 h2 hK)
          · cases hK
        · cases hK
      · cases hK
  | field t x f =>
    rw [hop] at hK
    dsimp only at hK
    split at hK
    · rename_i y off ft hx hf
      split at hK
      · rename_i c hc; exact .inl (op_field h hop hx hf hc hK)
      · cases hK
    · cases hK
  | build t parts =>
    rw [hop] at hK
    dsimp only at hK
    split at hK
    · rename_i fs z ht hz
      split at hK
      · rename_i places hp
        split at hK
        · rename_i x hx; exact .inl (op_buildS h hop ht hz hp hx hK)
        · cases hK
      · cases hK
    · rename_i m el z ht hz
      split at hK
      · rename_i ie hie
        split at hK
        · rename_i x hx; exact .inl (op_buildA h hop ht hz hie hx hK)
        · cases hK
      · cases hK
    · cases hK
  | buildSlice t n parts =>
    rw [hop] at hK
    dsimp only at hK
    split at hK
    · rename_i el z hz hnn
      split at hK
      · rename_i x hx
        exact .inr ⟨by simp only [simpleE, hop], fun next Q hn => op_buildSlice h hn hop hz (Nat.le_of_ble_eq_true hnn) hx hK⟩
      · cases hK
    · cases hK
  | alloc t =>
    rw [hop] at hK
    dsimp only at hK
    split at hK
    · rename_i x hx; exact .inr ⟨by simp only [simpleE, hop], fun next Q hn => op_alloc h hn hop hx hK⟩
    · cases hK
  | box t x =>
    rw [hop] at hK
    dsimp only at hK
    split at hK
    · rename_i y hx
      split at hK
      · rename_i hl
        refine .inr ⟨by simp only [simpleE, hop], fun next Q hn => op_box h hn hop (.inl hx) ?_ hK⟩
        rw [← Xs.len_toS]; exact (by simpa using hl : _ = _).symm
      · cases hK
    · rename_i s hx
      split at hK
      · rename_i hl
        exact .inr ⟨by simp only [simpleE, hop], fun next Q hn => op_box h hn hop (.inr ⟨s, rfl, hx⟩) hl hK⟩
      · cases hK
    · cases hK
  | load t x =>
    rw [hop] at hK
    dsimp only at hK
    split at hK
    · rename_i s off hx
      split at hK
      · rename_i T y hs hc; exact .inl (op_load1 h hop hx (by unfold contentB; rw [hs]) hc hK)
      · rename_i y hs hc; exact .inl (op_load1 h hop hx (by unfold contentB; rw [hs]) hc hK)
      · rename_i y hs hc; exact .inl (op_load1 h hop hx (by unfold contentB; rw [hs]) hc hK)
      · rename_i T y hs hc1 hc
        split at hK
        · rename_i hT
          have hT : T = t := by simpa using hT
          subst hT
          have hr := h.rel s
          rw [hs] at hr
          obtain ⟨b, -, -, h3⟩ := hr
          refine .inl (op_loadA h hop hx hs hc (c := y) (by omega) ?_ hK)
          rw [List.drop_zero, h3, ← Xs.len_enc, List.take_length]
        · split at hK
          · rename_i c hp; exact .inl (told_load h hop hx hs hc1 hc hp hK)
          · cases hK
      · cases hK
    · cases hK
  | store t x v =>
    exact .inr ⟨by simp only [simpleE, hop], fun next Q hn => store_told h hop (by unfold opK; exact hK) fun e' a' b off row _ hK' hS hp => hn e' a' _ hK' hS hp fun hq => by simp [quietE, hop] at hq⟩
  | nilCheck x =>
    rw [hop] at hK
    dsimp only at hK
    split at hK
    · rename_i s off hx; exact .inl (op_nilCheck h hop hx hK)
    · cases hK
  | fieldAddr t x f =>
    rw [hop] at hK
    dsimp only at hK
    split at hK
    · rename_i s off fo ft hx hf; exact .inl (op_fieldAddr h hop hx hf hK)
    · cases hK
  | indexAddr t x i =>
    rw [hop] at hK
    dsimp only at hK
    split at hK
    · rename_i m el s off k n ht hx hi
      split at hK
      · rename_i hc; exact .inl (op_indexAddrA h hop ht hc hx hi hK)
      · cases hK
    · rename_i el s k n ht hx hi
      split at hK
      · rename_i y hc hy; exact .inl (op_indexAddrS h hop ht hc (lo := 0) (.inl ⟨hx, rfl, y, hy, rfl⟩) hi (by rw [Nat.zero_add]; exact hK))
      · cases hK
    · rename_i el s lo m k n ht hx hi
      split at hK
      · rename_i hc; exact .inl (op_indexAddrS h hop ht hc (.inr hx) hi hK)
      · cases hK
    · cases hK
  | range t x =>
    rw [hop] at hK
    dsimp only at hK
    split at hK
    · rename_i l ht hx; exact .inr ⟨by simp only [simpleE, hop], fun next Q hn => op_range h hn hop ht hx hK⟩
    · cases hK
  | next x s =>
    rw [hop] at hK
    cases s with
    | false => cases hK
    | true =>
      dsimp only at hK
      refine .inr ⟨by simp only [simpleE, hop], fun next Q hn => ?_⟩
      split at hK
      · rename_i s hx
        split at hK
        · rename_i l pos hs
          cases hd : decide (pos < l.length)
          · rw [hd] at hK; exact (op_nextEnd h ⟨hop, rfl⟩ hx hs (by simpa using hd) hK).wp h hn
          · rw [hd] at hK; exact op_nextMore h hn ⟨hop, rfl⟩ hx hs (by simpa using hd) hK
        · cases hK
      · cases hK
  | extract x i =>
    rw [hop] at hK
    cases x with
    | tmp t =>
      dsimp only at hK
      split at hK
      · rename_i l ht
        split at hK
        · rename_i y hc hd
          exact .inr ⟨by simp only [simpleE, hop, ht, hc], fun next Q hn => op_extractO h hn hop ht hc (by simpa using hd) hK⟩
        · rename_i s hc; exact .inl (op_extract0 h hop ht hc rfl hK)
        · rename_i y hc; exact .inl (op_extract0 h hop ht hc rfl hK)
        · cases hK
      · cases hK
    | _ => cases hK
  | makeSlice t l c =>
    rw [hop] at hK
    dsimp only at hK
    split at hK
    · rename_i el z k n k' m hz hl hc
      exact .inr ⟨by simp only [simpleE, hop], fun next Q hn => op_makeSlice h hn hop hz hl hc hK⟩
    · cases hK
  | call c =>
    rw [hop] at hK
    dsimp only at hK
    split at hK
    · rename_i f hc
      split at hK
      · rename_i g hf
        exact .inr ⟨by simp only [simpleE, hop, hc], fun next Q hn => op_call (hΓ g) hG hng h hn hop hc hf hK⟩
      · cases hK
    · rename_i hc
      split at hK
      · rename_i x t hx ht
        split at hK
        · rename_i hty
          unfold lenTy at hty
          refine .inl (op_len h hop hc hx ht hK ?_ ?_)
          · intro l hl
            split at hty
            · assumption
            · cases hty
            · rename_i hne; exact absurd hl (hne l)
            · cases hty
          · intro hne
            split at hty
            · rename_i l _ hl; exact absurd hl (hne l)
            · cases hty
            · exact ⟨_, by assumption⟩
            · cases hty
        · cases hK
      · cases hK
    · rename_i hc
      split at hK
      · rename_i x y t u hxy ht
        split at hK
        · rename_i q y0 hz hu hy
          refine .inr ⟨by simp only [simpleE, hop, hc], fun next Q hn => ?_⟩
          obtain ⟨el, zz⟩ := q
          have hv := (ev_rel h x).1
          unfold appendK at hK
          split at hK
          · rename_i s hx
            rw [hx] at hv
            split at hK
            · rename_i x0 hs
              split at hK
              · rename_i z hzz
                cases hdd : decide (z.len ≤ 1099511627776)
                · rw [hdd] at hK; cases hK
                · rw [hdd] at hK
                  have hr := h.rel s
                  rw [hs] at hr
                  have hw := (h.killed s).weak s .u trivial (kill_none s e) rfl (by simp [blks]) (by simp [blks])
                  refine op_appendG h hn hw hop hc hxy ht hz hu (by rw [hv.2]; exact hr) ?_ hy hzz (by simpa using hdd) hK
                  intro b hb
                  have hb' : b ∈ blks (e.getD s .u) (a.tmps.getD s undef) := by rw [hs, ← hv.2]; exact hb
                  refine ⟨h.own s b hb', fun i hi => ?_⟩
                  rw [getD_set, length_kill] at hi
                  by_cases hsi : s = i
                  · subst hsi; rw [if_pos rfl] at hi; split at hi <;> simp [blks] at hi
                  · rw [if_neg hsi, getD_kill] at hi
                    unfold noSelf at hi
                    split at hi
                    · simp [blks] at hi
                    · exact h.dist s i hsi b hb' hi
              · cases hK
            · cases hK
          · rename_i s lo n hx
            rw [hx] at hv
            obtain ⟨h1, ⟨A, cp, h2, h3, h4, h5⟩, h6⟩ := hv
            split at hK
            · rename_i x0 hs
              split at hK
              · rename_i z hzz
                cases hdd : decide (z.len ≤ 1099511627776)
                · rw [hdd] at hK; cases hK
                · rw [hdd] at hK
                  have hr := h.rel s
                  rw [hs] at hr
                  have hl := h6 x0 (by unfold contentB; rw [hs])
                  have hw := (h.killed s).weak s .u trivial (kill_none s e) rfl (by simp [blks]) (by simp [blks])
                  refine op_appendG h hn hw hop hc hxy ht hz hu (by rw [h2]; exact cut_own hr (by omega) h3 (h5 rfl)) ?_ hy hzz (by simpa using hdd) hK
                  intro b hb
                  have hb' : b ∈ blks (e.getD s .u) (a.tmps.getD s undef) := by
                    rw [hs]
                    rw [h2] at hb
                    rcases hr with ⟨q1, q2⟩ | ⟨b', cap, T, Cs, fr, q1, -⟩
                    · obtain ⟨rfl, -⟩ := h5 rfl _ _ _ q1
                      simp [blkOf, baseOf] at hb
                    · obtain ⟨rfl, -⟩ := h5 rfl _ _ _ q1
                      rw [q1]; exact hb
                  refine ⟨h.own s b hb', fun i hi => ?_⟩
                  rw [getD_set, length_kill] at hi
                  by_cases hsi : s = i
                  · subst hsi; rw [if_pos rfl] at hi; split at hi <;> simp [blks] at hi
                  · rw [if_neg hsi, getD_kill] at hi
                    unfold noSelf at hi
                    split at hi
                    · simp [blks] at hi
                    · exact h.dist s i hsi b hb' hi
              · cases hK
            · cases hK
          · rename_i hx
            rw [hx] at hv
            cases hdd : decide (y0.len ≤ 1099511627776)
            · rw [hdd] at hK; cases hK
            · rw [hdd] at hK
              have hv' : a.eval x = .slice none 0 0 := hv
              refine op_appendG h hn h hop hc hxy ht hz hu (x0 := .ss []) (z := y0) (.inl ⟨hv', rfl⟩) ?_ hy ?_ (by simpa using hdd) hK
              · intro b hb; rw [hv'] at hb; simp [blkOf, baseOf] at hb
              · unfold Xs.app; cases y0 <;> rfl
          · cases hK
        · cases hK
      · cases hK
    · rename_i hc
      split at hK
      · rename_i x y t u hxy ht
        split at hK
        · rename_i q y0 s hz hy hx
          split at hK
          · rename_i x0 hx0
            obtain ⟨el, zz⟩ := q
            have hv := (ev_rel h x).1
            rw [hx] at hv
            obtain ⟨A, cap, h3, h4, h5⟩ := owner_slice h hx0
            refine .inr ⟨by simp only [simpleE, hop, hc], fun next Q hn => op_copyG h hn hop hc hxy ht hz hy (s := s) (hv.2.trans h3) ?_ ?_ hK⟩
            · intro hl
              obtain ⟨b, rfl⟩ := h5 hl
              exact ⟨b, by rw [h3]; rfl, by simp [Addr.add]⟩
            · intro x' hx'
              rw [contentB_of hx0] at hx'; cases hx'; omega
          · cases hK
        · rename_i q y0 s lo n hz hy hx
          obtain ⟨el, zz⟩ := q
          have hv := (ev_rel h x).1
          rw [hx] at hv
          obtain ⟨h1, ⟨A, cp, h2, h3, h4, h5⟩, h6⟩ := hv
          exact .inr ⟨by simp only [simpleE, hop, hc], fun next Q hn => op_copyG h hn hop hc hxy ht hz hy (s := s) h2 h4 h6 hK⟩
        · cases hK
      · cases hK
    · cases hK
  | _ => rw [hop] at hK; cases hK
end Go.Proofs.YtnfjggagenmkjaaDoor.AM
