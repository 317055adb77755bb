/- Readers over longer texts: what is taken without an error is taken the same way where more follows; in plain Lean. No condition. -/
import Derived.Test.YteoofihjmldllaaDoorRU
import Derived.Test.YteoofihjmldllaaDoorRW
import Derived.Test.YteoofihjmldllaaDoorR48
set_option linter.unusedVariables false
set_option linter.unusedSimpArgs false
set_option maxRecDepth 100000
namespace Go.Proofs.YteoofihjmldllaaDoor
open Go Go.Ab
def Rd.ext (r : Rd) (t : List UInt8) : Rd := { r with bs := r.bs ++ t }
def Pfx {α : Type} (f : Rd → α × Rd) : Prop := ∀ r : Rd, (f r).2.e = 0 → r.e = 0 ∧ (r.at_ ≤ r.bs.length → (f r).2.at_ ≤ (f r).2.bs.length ∧ ∀ t, f (r.ext t) = ((f r).1, (f r).2.ext t))
section
variable {α β : Type}
theorem Pfx.pure (a : α) : Pfx fun r => (a, r) := fun r h => ⟨h, fun hr => ⟨hr, fun t => rfl⟩⟩
theorem Pfx.bind {f : Rd → α × Rd} {g : α → Rd → β × Rd} (hf : Pfx f) (hg : ∀ a, Pfx (g a)) : Pfx fun r => g (f r).1 (f r).2 := by
 intro r h
 obtain ⟨h1, h2⟩ := hg (f r).1 (f r).2 h
 obtain ⟨h3, h4⟩ := hf r h1
 refine ⟨h3, fun hr => ?_⟩
 obtain ⟨h5, h6⟩ := h4 hr
 obtain ⟨h7, h8⟩ := h2 h5
 refine ⟨h7, fun t => ?_⟩
 show g (f (r.ext t)).1 (f (r.ext t)).2 = _
 rw [h6 t]
 exact h8 t
theorem Pfx.map {f : Rd → α × Rd} (hf : Pfx f) (m : α → β) : Pfx fun r => (m (f r).1, (f r).2) := hf.bind (g := fun a r => (m a, r)) fun a => Pfx.pure (m a)
theorem Rd.fail_e0 {r : Rd} {e : Int} (h : (r.fail e).e = 0) : r.e = 0 ∧ e = 0 := by
 unfold Rd.fail at h
 split at h
 ·rename_i hc
  exact absurd h hc.2
 ·rename_i hc
  refine ⟨h, ?_⟩
  by_cases he : e = 0
  ·exact he
  ·exact absurd ⟨h, he⟩ hc
theorem Pfx.fail (a : α) (e : Int) : Pfx fun r => (a, r.fail e) := fun r h => by
 obtain ⟨h1, rfl⟩ := Rd.fail_e0 h
 have e1 : ∀ x : Rd, x.fail 0 = x := fun x => if_neg fun h => h.2 rfl
 simp only [e1]
 exact ⟨h1, fun hr => ⟨hr, fun t => trivial⟩⟩
theorem Pfx.ite {p : Prop} [Decidable p] {f g : Rd → α × Rd} (hf : Pfx f) (hg : Pfx g) : Pfx fun r => if p then f r else g r := by
 by_cases h : p
 ·simp only [if_pos h]; exact hf
 ·simp only [if_neg h]; exact hg
theorem Pfx.guard {f : Rd → α × Rd} (hf : Pfx f) (d : α) : Pfx fun r => (if (f r).2.e ≠ 0 then d else (f r).1, (f r).2) := by
 intro r h
 have h : (f r).2.e = 0 := h
 obtain ⟨h1, h2⟩ := hf r h
 refine ⟨h1, fun hr => ?_⟩
 obtain ⟨h3, h4⟩ := h2 hr
 refine ⟨h3, fun t => ?_⟩
 have h5 : (f (r.ext t)).2.e = 0 := by rw [h4 t]; exact h
 simp only
 rw [if_neg (fun x => x h5), if_neg (fun x => x h), h4 t]
end
theorem lookGo_ext : ∀ (l t : List UInt8) (n v : Nat), (lookGo n v l).2.2 = 0 → lookGo n v (l ++ t) = lookGo n v l
 | [], t, n, v, h => by rw [lookGo] at h; cases h
 | c :: l, t, n, v, h => by
  rw [lookGo] at h
  rw [List.cons_append, lookGo, lookGo.eq_def n v (c :: l)]
  simp only
  split at h
  ·cases h
  ·rename_i h1
   rw [if_neg h1, if_neg h1]
   split at h
   ·rename_i h2
    rw [if_pos h2, if_pos h2]
   ·rename_i h2
    rw [if_neg h2, if_neg h2]
    exact lookGo_ext l t _ _ h
theorem look_ext {l : List UInt8} (t : List UInt8) (h : (look l).2.2 = 0) : look (l ++ t) = look l := lookGo_ext l t 0 0 h
theorem Rd.rest_ext {r : Rd} (h : r.at_ ≤ r.bs.length) (t : List UInt8) : (r.ext t).rest = r.rest ++ t := List.drop_append_of_le_length h
theorem Rd.left_ext (r : Rd) (t : List UInt8) : (r.ext t).left = r.left + (t.length : Int) := by
 show ((r.bs ++ t).length : Int) - (r.at_ : Int) = _
 rw [List.length_append]
 unfold Rd.left
 omega
theorem pfx_take (n : Nat) : Pfx fun r => r.take n := by
 intro r h
 have h : (r.take n).2.e = 0 := h
 by_cases he : r.e = 0
 ·by_cases hn : (n : Int) > r.left
  ·rw [Rd.take, if_neg (fun x => x he), if_pos hn] at h
   exact absurd (Rd.fail_e0 h).2 Dz
  ·have e1 : r.take n = (r.rest.take n, { r with at_ := r.at_ + n }) := by rw [Rd.take, if_neg (fun x => x he), if_neg hn]
   refine ⟨he, fun hr => ?_⟩
   show (r.take n).2.at_ ≤ (r.take n).2.bs.length ∧ ∀ t, (r.ext t).take n = ((r.take n).1, (r.take n).2.ext t)
   have hl : n ≤ r.rest.length := by rw [Rd.rest_len]; unfold Rd.left at hn; omega
   rw [e1]
   refine ⟨by show r.at_ + n ≤ r.bs.length; unfold Rd.left at hn; omega, fun t => ?_⟩
   rw [Rd.take, if_neg (fun x => x he), if_neg (by rw [Rd.left_ext]; omega), Rd.rest_ext hr, List.take_append_of_le_length hl]
   rfl
 ·rw [Rd.take, if_pos he] at h
  exact absurd h he
theorem pfx_fix1 : Pfx fun r => r.fix1 := (pfx_take 1).map fun l => (l.headD 0).toNat
theorem pfx_var : Pfx fun r => r.var := by
 intro r h
 have h : r.var.2.e = 0 := h
 by_cases he : r.e = 0
 ·have e1 : r.var = ((look r.rest).1, { r.fail (look r.rest).2.2 with at_ := r.at_ + (look r.rest).2.1 }) := by rw [Rd.var, if_neg (fun x => x he)]
  rw [e1] at h
  obtain ⟨_, hz⟩ := Rd.fail_e0 (r := r) (e := (look r.rest).2.2) h
  have hf := look_facts r.rest
  rw [Rd.rest_len] at hf
  refine ⟨he, fun hr => ?_⟩
  show r.var.2.at_ ≤ r.var.2.bs.length ∧ ∀ t, (r.ext t).var = (r.var.1, r.var.2.ext t)
  rw [e1, hz, Rd.fail0]
  refine ⟨by show r.at_ + (look r.rest).2.1 ≤ r.bs.length; omega, fun t => ?_⟩
  rw [Rd.var, if_neg (fun x => x he), Rd.rest_ext hr, look_ext t hz, hz, Rd.fail0]
  rfl
 ·rw [Rd.var, if_pos he] at h
  exact absurd h he
theorem pfx_blob (most : Nat) : Pfx fun r => r.blob most := by
 intro r h
 have h : (r.blob most).2.e = 0 := h
 by_cases he : r.e = 0
 ·by_cases hb : blobE r most = 0
  ·have e1 : r.blob most = (r.adv (look r.rest).2.1).take (look r.rest).1 := by rw [Rd.blob, if_neg (fun x => x he), if_neg (fun x => x hb)]; rfl
   rw [e1] at h
   obtain ⟨_, h2⟩ := pfx_take (look r.rest).1 (r.adv (look r.rest).2.1) h
   have hf := look_facts r.rest
   rw [Rd.rest_len] at hf
   refine ⟨he, fun hr => ?_⟩
   show (r.blob most).2.at_ ≤ (r.blob most).2.bs.length ∧ ∀ t, (r.ext t).blob most = ((r.blob most).1, (r.blob most).2.ext t)
   rw [e1]
   obtain ⟨h3, h4⟩ := h2 (by show r.at_ + (look r.rest).2.1 ≤ r.bs.length; omega)
   refine ⟨h3, fun t => ?_⟩
   have hz : (look r.rest).2.2 = 0 := by
    unfold blobE at hb
    split at hb
    ·rename_i hx; exact absurd hb hx
    ·rename_i hx; exact Decidable.not_not.1 hx
   have hb2 : blobE (r.ext t) most = 0 := by
    unfold blobE at hb ⊢
    rw [Rd.rest_ext hr, look_ext t hz]
    rw [if_neg (fun x => x hz)] at hb ⊢
    split at hb
    ·cases hb
    ·rename_i hx
     rw [if_neg hx]
     split at hb
     ·cases hb
     ·rename_i hy
      rw [if_neg (by rw [Rd.left_ext]; omega)]
   rw [Rd.blob, if_neg (fun x => x he), if_neg (fun x => x hb2), Rd.rest_ext hr, look_ext t hz]
   exact h4 t
  ·rw [Rd.blob, if_neg (fun x => x he), if_pos hb] at h
   exact absurd (Rd.fail_e0 h).2 hb
 ·rw [Rd.blob, if_pos he] at h
  exact absurd h he
theorem pfx_run {α : Type} {F : α × Rd → α × Rd} (hF : ∀ a, Pfx fun r => F (a, r)) : ∀ (n : Nat) (a : α), Pfx fun r => runR F n (a, r)
 | 0, a => Pfx.pure a
 | n + 1, a => by
  have key : Pfx fun r => runR F n (F (a, r)) := (hF a).bind (g := fun b r => runR F n (b, r)) fun b => pfx_run hF n b
  intro r h
  have h : (runR F (n + 1) (a, r)).2.e = 0 := h
  by_cases he : r.e = 0
  ·have e1 : runR F (n + 1) (a, r) = runR F n (F (a, r)) := by rw [runR, if_neg (fun x => x he)]
   rw [e1] at h
   obtain ⟨h1, h2⟩ := key r h
   refine ⟨h1, fun hr => ?_⟩
   obtain ⟨h3, h4⟩ := h2 hr
   show (runR F (n + 1) (a, r)).2.at_ ≤ (runR F (n + 1) (a, r)).2.bs.length ∧ ∀ t, runR F (n + 1) (a, r.ext t) = ((runR F (n + 1) (a, r)).1, (runR F (n + 1) (a, r)).2.ext t)
   rw [e1]
   refine ⟨h3, fun t => ?_⟩
   rw [runR, if_neg (fun x => x he)]
   exact h4 t
  ·rw [runR, if_pos (fun x => he x)] at h
   exact absurd h he
theorem pfx_it {α : Type} {F : α × Rd → α × Rd} (hF : ∀ a, Pfx fun r => F (a, r)) : ∀ (n : Nat) (a : α), Pfx fun r => itR F (a, r) n
 | 0, a => Pfx.pure a
 | n + 1, a => (pfx_it hF n a).bind (g := fun b r => F (b, r)) fun b => hF b
theorem pfx_K : Pfx takeK := pfx_fix1.bind (g := fun k r => if k = 0 then (vD, r) else if k = 1 then (⟨1, zagN r.var.1, ⟨#[]⟩⟩, r.var.2) else if k = 2 then (⟨2, 0, ⟨(r.blob 65536).1.toArray⟩⟩, (r.blob 65536).2) else (vD, r.fail 4)) fun k =>
 (Pfx.pure vD).ite ((pfx_var.map fun v => (⟨1, zagN v, ⟨#[]⟩⟩ : Val)).ite (((pfx_blob 65536).map fun l => (⟨2, 0, ⟨l.toArray⟩⟩ : Val)).ite (Pfx.fail vD 4)))
theorem pfx_V : Pfx takeV := pfx_K.guard vD
def bindR {α β : Type} (f : Rd → α × Rd) (g : α → Rd → β × Rd) : Rd → β × Rd := fun r => g (f r).1 (f r).2
theorem Pfx.bindR {α β : Type} {f : Rd → α × Rd} {g : α → Rd → β × Rd} (hf : Pfx f) (hg : ∀ a, Pfx (g a)) : Pfx (bindR f g) := hf.bind hg
theorem pfx_check (c : Bool) (e : Int) : Pfx fun r : Rd => ((), if c = true then r else r.fail e) := by
 cases c
 ·exact Pfx.fail () e
 ·exact Pfx.pure ()
theorem colStep_bind : colStep = bindR Rd.fix1 fun k => bindR Rd.fix1 fun n => bindR Rd.fix1 fun w => bindR (fun r => ((), if decide (¬ n > 1) = true then r else r.fail 4)) fun _ r => (⟨(k : Int), decide (n = 1), (w : Int) - 1⟩, r) := by
 funext r
 unfold colStep
 simp only [bindR]
 congr 1
 by_cases h : r.fix1.2.fix1.1 > 1
 ·rw [if_pos h, if_neg (by rw [decide_eq_true_eq]; exact fun x => x h)]
 ·rw [if_neg h, if_pos (by rw [decide_eq_true_eq]; exact h)]
theorem pfx_col : Pfx colStep := by
 rw [colStep_bind]
 exact pfx_fix1.bindR fun k => pfx_fix1.bindR fun n => pfx_fix1.bindR fun w => (pfx_check _ 4).bindR fun _ => Pfx.pure _
theorem pfx_sStep (l : List Col) : Pfx fun r => sStep (l, r) := pfx_col.map fun v => l ++ [v]
theorem pfx_schRun : Pfx schRun := pfx_fix1.bind (g := fun n r => runR sStep n ([], r)) fun n => pfx_run pfx_sStep n []
theorem pfx_sch : Pfx takeSch := (pfx_schRun.bind (g := fun l r => (l, r.fail (schemaI l))) fun l => Pfx.fail l _).guard []
/-- What takes all of a text takes none of a shorter one. -/
theorem Pfx.cut {α : Type} {f : Rd → α × Rd} (hf : Pfx f) {x t : List UInt8} (ht : t ≠ []) (h : (f ⟨x ++ t, 0, 0, 0⟩).2.end_.1 = 0) : (f ⟨x, 0, 0, 0⟩).2.end_.1 ≠ 0 := by
 intro hx
 have h0 : ∀ r : Rd, r.end_.1 = 0 → r.e = 0 ∧ ¬ r.at_ < r.bs.length := fun r hr => by
  unfold Rd.end_ at hr
  split at hr
  ·cases hr
  ·rename_i hc
   exact ⟨hr, fun hl => hc ⟨hr, hl⟩⟩
 obtain ⟨h1, h2⟩ := h0 _ hx
 obtain ⟨_, h3⟩ := hf _ h1
 obtain ⟨h4, h5⟩ := h3 (Nat.zero_le _)
 have h6 := h5 t
 have e : (Rd.ext ⟨x, 0, 0, 0⟩ t) = ⟨x ++ t, 0, 0, 0⟩ := rfl
 rw [e] at h6
 rw [h6] at h
 obtain ⟨_, h8⟩ := h0 _ h
 apply h8
 show (f ⟨x, 0, 0, 0⟩).2.at_ < ((f ⟨x, 0, 0, 0⟩).2.bs ++ t).length
 rw [List.length_append]
 have : 0 < t.length := List.length_pos_iff.2 ht
 omega
end Go.Proofs.YteoofihjmldllaaDoor

/- What a reply's reader takes of a form, of a part of it, and of more than it, in plain Lean. No condition. -/
set_option linter.unusedVariables false
set_option linter.unusedSimpArgs false
set_option maxRecDepth 100000
namespace Go.Proofs.YteoofihjmldllaaDoor
open Go Go.Ab
theorem pfx_hash : Pfx fun r => r.hash := (pfx_take 32).map fun l => (⟨pad32 l, pad32_len l⟩ : Dg)
theorem pfx_num : Pfx fun r => r.num := pfx_var.map fun v => Min.min (v : Int) 65537
theorem pfx_count (m : Nat) : Pfx fun r => r.count m := by
 have h : Pfx fun r : Rd => (r.var.1, r.countR m) := by
  have e : (fun r : Rd => (r.var.1, r.countR m)) = bindR Rd.var fun v r => if v > m then (v, r.fail 12) else (v, r) := by
   funext r
   unfold Rd.countR
   simp only [bindR]
   split <;> rfl
  rw [e]
  exact pfx_var.bindR fun v => (Pfx.fail v 12).ite (Pfx.pure v)
 exact h.guard 0
theorem pfx_ent : Pfx fun r => r.ent := by
 have h : Pfx fun r : Rd => ((⟨r.hash.1, (r.entV.1 : Int), r.entD.1⟩ : Ent), r.entR) := by
  have e : (fun r : Rd => ((⟨r.hash.1, (r.entV.1 : Int), r.entD.1⟩ : Ent), r.entR)) = bindR Rd.hash fun s => bindR Rd.var fun v => bindR Rd.hash fun d r => if v > 1048576 then ((⟨s, (v : Int), d⟩ : Ent), r.fail 5) else ((⟨s, (v : Int), d⟩ : Ent), r) := by
   funext r
   unfold Rd.entR
   simp only [bindR]
   show _ = if r.entV.1 > 1048576 then _ else _
   split <;> rfl
  rw [e]
  exact Pfx.bindR pfx_hash fun s => pfx_var.bindR fun v => Pfx.bindR pfx_hash fun d => (Pfx.fail _ 5).ite (Pfx.pure _)
 exact h.guard zeroE
theorem pfx_zone : Pfx fun r => r.zone := by
 have e : (fun r : Rd => r.zone) = bindR Rd.num fun n => bindR Rd.fix1 fun k r => if k = 0 then ((⟨n, false, vD, vD⟩ : Zn), r) else if k = 1 then bindR takeV (fun a => bindR takeV fun b r => ((⟨n, true, a, b⟩ : Zn), r)) r else ((⟨n, false, vD, vD⟩ : Zn), r.fail 4) := by
  funext r
  unfold Rd.zone
  simp only [bindR]
 rw [e]
 exact Pfx.bindR pfx_num fun n => pfx_fix1.bindR fun k => (Pfx.pure _).ite (Pfx.ite (Pfx.bindR pfx_V fun a => Pfx.bindR pfx_V fun b => Pfx.pure _) (Pfx.fail _ 4))
theorem pfx_chStep (l : List Ch) : Pfx fun r => chStep (l, r) := by
 have e : (fun r : Rd => chStep (l, r)) = bindR Rd.zone fun z => bindR Rd.hash fun d r => (l ++ [(⟨z, d⟩ : Ch)], r) := rfl
 rw [e]
 exact Pfx.bindR pfx_zone fun z => Pfx.bindR pfx_hash fun d => Pfx.pure _
theorem pfx_head (cols : List Col) : Pfx fun r => r.head cols := by
 have h : Pfx fun r : Rd => (hdOf r cols.length, hdEnd r cols) := by
  have e : (fun r : Rd => (hdOf r cols.length, hdEnd r cols)) = bindR Rd.num fun a => bindR Rd.num fun b => bindR Rd.hash fun d => bindR (fun r => runR chStep cols.length ([], r)) fun l r => if soundH soundR (⟨a, b, d, l⟩ : Hd) cols = false then ((⟨a, b, d, l⟩ : Hd), r.fail 4) else ((⟨a, b, d, l⟩ : Hd), r) := by
   funext r
   unfold hdEnd
   simp only [bindR]
   show (hdOf r cols.length, _) = if soundH soundR (hdOf r cols.length) cols = false then (hdOf r cols.length, (hdRun r cols.length).2.fail 4) else (hdOf r cols.length, (hdRun r cols.length).2)
   by_cases h1 : (hdRun r cols.length).2.e = 0
   ·by_cases h2 : soundH soundR (hdOf r cols.length) cols = false
    ·rw [if_pos ⟨h1, h2⟩, if_pos h2]
    ·rw [if_neg (fun x => h2 x.2), if_neg h2]
   ·rw [if_neg (fun x => h1 x.1), show (hdRun r cols.length).2.fail 4 = (hdRun r cols.length).2 from if_neg (fun x => h1 x.1), ite_self]
  rw [e]
  exact Pfx.bindR pfx_num fun a => Pfx.bindR pfx_num fun b => Pfx.bindR pfx_hash fun d => Pfx.bindR (pfx_run pfx_chStep cols.length []) fun l => (Pfx.fail _ 4).ite (Pfx.pure _)
 exact h.guard hdD
theorem pfx_ckStep (l : List (List UInt8)) : Pfx fun r => ckStep (l, r) := (pfx_blob 16777216).map fun b => l ++ [b]
theorem pfx_phStep (l : List Dg) : Pfx fun r => phStep (l, r) := pfx_hash.map fun b => l ++ [b]
theorem pfx_ship (cols : List Col) : Pfx fun r => r.ship cols := by
 have e : (fun r : Rd => r.ship cols) = bindR Rd.fix1 fun k => bindR (fun r => ((), if decide (¬ k > 1) = true then r else r.fail 4)) fun _ => bindR (fun r => r.head cols) fun h r =>
   if k = 1 then bindR (fun r => r.blob 65536) (fun d => bindR (fun r => r.count 64) fun m => bindR (fun r => itR ckStep ([], r) m) fun l r => ((⟨h, true, d, l⟩ : Sp), r)) r else ((⟨h, false, [], []⟩ : Sp), r) := by
  funext r
  have ho : (if decide (¬ r.fix1.1 > 1) = true then r.fix1.2 else r.fix1.2.fail 4) = r.opn := by
   unfold Rd.opn
   by_cases h : r.fix1.1 > 1
   ·rw [if_pos h, if_neg (by rw [decide_eq_true_eq]; exact fun x => x h)]
   ·rw [if_neg h, if_pos (by rw [decide_eq_true_eq]; exact h)]
  unfold Rd.ship
  simp only [bindR]
  rw [ho]
  rfl
 rw [e]
 exact pfx_fix1.bindR fun k => (pfx_check _ 4).bindR fun _ => Pfx.bindR (pfx_head cols) fun h => Pfx.ite (Pfx.bindR (pfx_blob 65536) fun d => Pfx.bindR (pfx_count 64) fun m => Pfx.bindR (pfx_it pfx_ckStep m []) fun l => Pfx.pure _) (Pfx.pure _)
theorem pfx_spStep (cols : List Col) (l : List Sp) : Pfx fun r => spStep cols (l, r) := (pfx_ship cols).map fun b => l ++ [b]
theorem pfx_rp : Pfx fun r => (rpOf r, (rp8 r).2) := by
 have e : (fun r : Rd => (rpOf r, (rp8 r).2)) = bindR rp1 fun s => bindR Rd.hash fun d => bindR takeSch fun c => bindR Rd.ent fun e => bindR (fun r => r.count 64) fun n => bindR (fun r => itR phStep ([], r) n) fun p => bindR (fun r => r.count 1048576) fun m => bindR (fun r => runR (spStep c) m ([], r)) fun b r => ((⟨(s : Int), d, e, p, c, b⟩ : Rp), r) := by
  funext r
  simp only [bindR]
  unfold rpOf rp8 rp7 rp6 rp5 rp4 rp3 rp2
  rfl
 rw [e]
 exact Pfx.bindR (pfx_count 1099511627776) fun s => Pfx.bindR pfx_hash fun d => Pfx.bindR pfx_sch fun c => Pfx.bindR pfx_ent fun e => Pfx.bindR (pfx_count 64) fun n => Pfx.bindR (pfx_it pfx_phStep n []) fun p => Pfx.bindR (pfx_count 1048576) fun m => Pfx.bindR (pfx_run (pfx_spStep c) m []) fun b => Pfx.pure _
section
variable {r : Rp} (hf : formedR soundR r = true) (ho : r.ok)
include hf ho
theorem take_cut {x t : List UInt8} (ht : t ≠ []) (hx : rpB r = x ++ t) : (takeRp x).2.1 ≠ 0 := by
 have h := rp_put (y := []) hf ho (rd := rd0 (rpB r)) (by rw [List.append_nil]; exact rd0_has _)
 have e : (rp8 (rd0 (rpB r))).2.end_ = (0, 0) := by
  rw [h.2]
  show (if (0 : Int) = 0 ∧ 0 + (rpB r).length < (rpB r).length then _ else _) = _
  rw [if_neg Wz]
  rfl
 have h2 : (rp8 (rd0 x)).2.end_.1 ≠ 0 := pfx_rp.cut (x := x) (t := t) ht (by rw [← hx]; exact congrArg Prod.fst e)
 unfold takeRp
 rw [if_pos h2]
 exact h2
end
end Go.Proofs.YteoofihjmldllaaDoor
