/- What an argument that is a reply is. No condition. -/
import Derived.Test.YteoofihjmldllaaDoorRPg
import Derived.Test.YteoofihjmldllaaDoorR49
import Derived.Test.YteoofihjmldllaaDoorR54
set_option linter.unusedVariables false
set_option maxRecDepth 100000
namespace Go.Proofs.YteoofihjmldllaaDoor
open Go Go.Ab
section
variable {H : Hp}
theorem SLC_invS {e : TypeId} {z : Nat} {t : TypeId} {cs : List Value} [ht : SlInfo Tryd.prog t e z] (h : AD Tryd.prog H (.one t) cs) : ∃ A l c cells, cs = [.slice A l c] ∧ SLC H z A l c cells ∧ cells.length = l * z ∧ l ≤ maxLen ∧ l * Tryd.prog.bytesOf e ≤ reachBytes ∧ Exa A ∧ AD Tryd.prog H (.many (List.replicate l e)) cells := by
 obtain ⟨hu, hs⟩ := slB_inv ht.h
 have hz := cellsOf_size hs
 cases h with
 | nilSlc ht' => exact ⟨none, 0, 0, [], rfl, SLC.nil, by simp, by simp, by simp, (fun a ha => by cases ha), .nil⟩
 | @slc0 _ e' n c ht' hm => exact ⟨some ⟨n, 0, none⟩, 0, c, [], rfl, ⟨rfl, Nat.zero_le _⟩, by simp, by simp, by simp, (fun a ha => by cases ha; rfl), .nil⟩
 | @slc _ e' n l c cells ht' hn hl h0 hc hm hr h' =>
  rw [hu] at ht'
  injection ht' with ht'
  injection ht' with ht'
  subst ht'
  rw [hz] at hl
  refine ⟨some ⟨n, 0, none⟩, l, c, cells, rfl, ⟨?_, hc⟩, hl, Nat.le_trans hc hm, hr, (fun a ha => by cases ha; rfl), h'⟩
  simp only [slcCells, hn]
  rw [if_neg Wz, if_pos Wz, List.drop_zero, ← hl, List.take_length]
 | _ => simp_all
theorem hash_inv' {cs : List Value} (h : AD Tryd.prog H (.one 65) cs) : ∃ d : Dg, cs = d.l.map bv := by
 obtain ⟨bs, h1, rfl⟩ := h.array_inv.bytes_inv
 exact ⟨⟨bs, h1⟩, rfl⟩
theorem hashes_inv' : ∀ {l : Nat} {cs : List Value}, AD Tryd.prog H (.many (List.replicate l 65)) cs → ∃ p : List Dg, p.length = l ∧ cs = hcs p
 | 0, cs, h => ⟨[], rfl, h.nil_inv⟩
 | l + 1, cs, h => by
  rw [List.replicate_succ] at h
  obtain ⟨a, b, rfl, ha, _, hb⟩ := h.cons_inv
  obtain ⟨d, rfl⟩ := hash_inv' ha
  obtain ⟨p, rfl, rfl⟩ := hashes_inv' hb
  exact ⟨d :: p, rfl, rfl⟩
theorem valV_inv {cs : List Value} (h : AD Tryd.prog H (.one 59) cs) : ∃ a : Val, cs = (vv a).cells.toList ∧ a.ok := by
 obtain ⟨a, b, rfl, ha, _, hb⟩ := h.struct_inv.cons_inv
 obtain ⟨c, d, rfl, hc, _, hd⟩ := hb.cons_inv
 obtain ⟨e, f, rfl, he, _, hf⟩ := hd.cons_inv
 rw [hf.nil_inv]
 obtain ⟨kind, rfl, k1, k2⟩ := ha.int_inv
 obtain ⟨n, rfl, n1, n2⟩ := hc.int_inv
 obtain ⟨s, rfl, s1⟩ := he.str_invR
 exact ⟨⟨kind, n, s⟩, rfl, wf_i64 k1 k2, wf_i64 n1 n2, s1⟩
theorem zone_inv {cs : List Value} (h : AD Tryd.prog H (.one 133) cs) : ∃ z : Zn, cs = znc z ∧ z.ok := by
 obtain ⟨a, b, rfl, ha, _, hb⟩ := h.struct_inv.cons_inv
 obtain ⟨c, d, rfl, hc, _, hd⟩ := hb.cons_inv
 obtain ⟨e, f, rfl, he, _, hf⟩ := hd.cons_inv
 obtain ⟨g, i, rfl, hg, _, hi⟩ := hf.cons_inv
 rw [hi.nil_inv]
 obtain ⟨n, rfl, n1, n2⟩ := ha.int_inv
 obtain ⟨s, rfl⟩ := hc.bool_inv
 obtain ⟨mn, rfl, o1⟩ := valV_inv he
 obtain ⟨mx, rfl, o2⟩ := valV_inv hg
 exact ⟨⟨n, s, mn, mx⟩, rfl, wf_i64 n1 n2, o1, o2⟩
theorem ch_inv {cs : List Value} (h : AD Tryd.prog H (.one 135) cs) : ∃ c : Ch, cs = chc c ∧ c.z.ok := by
 obtain ⟨a, b, rfl, ha, _, hb⟩ := h.struct_inv.cons_inv
 obtain ⟨c, d, rfl, hc, _, hd⟩ := hb.cons_inv
 rw [hd.nil_inv]
 obtain ⟨z, rfl, o⟩ := zone_inv ha
 obtain ⟨x, rfl⟩ := hash_inv' hc
 exact ⟨⟨z, x⟩, by rw [List.append_nil], o⟩
theorem chs_inv : ∀ {l : Nat} {cs : List Value}, AD Tryd.prog H (.many (List.replicate l 135)) cs → ∃ p : List Ch, p.length = l ∧ cs = chs p ∧ ∀ c ∈ p, c.z.ok
 | 0, cs, h => ⟨[], rfl, h.nil_inv, fun c hc => (nomatch hc)⟩
 | l + 1, cs, h => by
  rw [List.replicate_succ] at h
  obtain ⟨a, b, rfl, ha, _, hb⟩ := h.cons_inv
  obtain ⟨d, rfl, o⟩ := ch_inv ha
  obtain ⟨p, rfl, rfl, ho⟩ := chs_inv hb
  refine ⟨d :: p, rfl, rfl, fun c hc => ?_⟩
  rcases List.mem_cons.1 hc with rfl | hc
  ·exact o
  ·exact ho c hc
theorem bys_inv {cs : List Value} (h : AD Tryd.prog H (.one 22) cs) : ∃ (bs : List UInt8) (A : Option Addr) (c : Nat), cs = [.slice A bs.length c] ∧ SLC H 1 A bs.length c (bs.map bv) ∧ bs.length ≤ reachBytes := by
 obtain ⟨A, l, c, cells, rfl, h1, h2, _, h3, _, h4⟩ := SLC_invS h
 obtain ⟨bs, rfl, rfl⟩ := h4.bytes_inv
 have e1 : Tryd.prog.bytesOf 5 = 1 := by kernel_rfl
 rw [e1, Nat.mul_one] at h3
 exact ⟨bs, A, c, rfl, h1, h3⟩
theorem bws_inv : ∀ {l : Nat} {cs : List Value}, AD Tryd.prog H (.many (List.replicate l 22)) cs → ∃ ls : List (List UInt8), ls.length = l ∧ Bws H cs ls ∧ ∀ y ∈ ls, y.length ≤ reachBytes
 | 0, cs, h => ⟨[], rfl, by rw [h.nil_inv]; exact Bws.nil, fun y hy => (nomatch hy)⟩
 | l + 1, cs, h => by
  rw [List.replicate_succ] at h
  obtain ⟨a, b, rfl, ha, _, hb⟩ := h.cons_inv
  obtain ⟨bs, A, c, rfl, h1, h2⟩ := bys_inv ha
  obtain ⟨ls, rfl, h3, h4⟩ := bws_inv hb
  refine ⟨bs :: ls, rfl, ⟨by simp [h3.len], fun i hi => ?_⟩, fun y hy => ?_⟩
  ·cases i with
   | zero => exact ⟨A, c, rfl, h1⟩
   | succ i => exact h3.at_ i (by simpa using hi)
  ·rcases List.mem_cons.1 hy with rfl | hy
   ·exact h2
   ·exact h4 y hy
theorem hd_inv {cs : List Value} (h : AD Tryd.prog H (.one 81) cs) : ∃ (x : Hd) (A : Option Addr) (c : Nat), cs = hdc x (.slice A x.cols.length c) ∧ Exa A ∧ SLC H 40 A x.cols.length c (chs x.cols) ∧ (∀ c ∈ x.cols, c.z.ok) ∧ x.cols.length ≤ 9223372036854775807 := by
 obtain ⟨a, b, rfl, ha, _, hb⟩ := h.struct_inv.cons_inv
 obtain ⟨c, d, rfl, hc, _, hd⟩ := hb.cons_inv
 obtain ⟨e, f, rfl, he, _, hf⟩ := hd.cons_inv
 obtain ⟨g, i, rfl, hg, _, hi⟩ := hf.cons_inv
 rw [hi.nil_inv]
 obtain ⟨n, rfl, _⟩ := ha.int_inv
 obtain ⟨m, rfl, _⟩ := hc.int_inv
 obtain ⟨x, rfl⟩ := hash_inv' he
 obtain ⟨A, l, k, cells, rfl, h1, _, h2, _, h3, h4⟩ := SLC_invS hg
 obtain ⟨p, rfl, rfl, ho⟩ := chs_inv h4
 exact ⟨⟨n, m, x, p⟩, A, k, rfl, h3, h1, ho, h2⟩
theorem sp_inv {cs : List Value} (h : AD Tryd.prog H (.one 84) cs) : ∃ x : Sp, SpE H x cs ∧ x.ok ∧ x.lim := by
 obtain ⟨a, b, rfl, ha, _, hb⟩ := h.struct_inv.cons_inv
 obtain ⟨c, d, rfl, hc, _, hd⟩ := hb.cons_inv
 obtain ⟨e, f, rfl, he, _, hf⟩ := hd.cons_inv
 obtain ⟨g, i, rfl, hg, _, hi⟩ := hf.cons_inv
 rw [hi.nil_inv]
 obtain ⟨x, A, k, rfl, h1, h2, h3, h4⟩ := hd_inv ha
 obtain ⟨o, rfl⟩ := hc.bool_inv
 obtain ⟨bs, B, q, rfl, g1, g2⟩ := bys_inv he
 obtain ⟨C, l, j, cells, rfl, g3, g4, g5, _, _, g6⟩ := SLC_invS hg
 obtain ⟨ls, rfl, g7, g8⟩ := bws_inv g6
 have hr : reachBytes = 140737488351232 := rfl
 have hl := g7.len
 refine ⟨⟨x, o, bs, ls⟩, ⟨A, k, B, q, C, j, cells, h1, by rw [hl]; rfl, h2, g1, by rw [hl]; exact g3, g7⟩, ⟨h3, h4, by show bs.length ≤ _; omega, g5, fun y hy => by have := g8 y hy; omega⟩, ⟨by show bs.length ≤ _; omega, fun y hy => by have := g8 y hy; omega, fun c hc => ?_⟩⟩
 have hz := h3 c hc
 exact ⟨by have := hz.2.1.2.2; omega, by have := hz.2.2.2.2; omega⟩
theorem sps_inv : ∀ {l : Nat} {cs : List Value}, AD Tryd.prog H (.many (List.replicate l 84)) cs → ∃ p : List Sp, p.length = l ∧ SpsE H cs p ∧ (∀ x ∈ p, x.ok) ∧ ∀ x ∈ p, x.lim
 | 0, cs, h => ⟨[], rfl, by rw [h.nil_inv]; exact ⟨rfl, fun i hi => absurd hi (Nat.not_lt_zero i)⟩, fun c hc => (nomatch hc), fun c hc => (nomatch hc)⟩
 | l + 1, cs, h => by
  rw [List.replicate_succ] at h
  obtain ⟨a, b, rfl, ha, _, hb⟩ := h.cons_inv
  obtain ⟨x, h1, h2, h3⟩ := sp_inv ha
  obtain ⟨p, rfl, g1, g2, g3⟩ := sps_inv hb
  have hl : a.length = 38 := h1.spc_.len
  refine ⟨x :: p, rfl, ⟨by rw [List.length_append, hl, g1.len, List.length_cons]; omega, fun i hi => ?_⟩, fun y hy => ?_, fun y hy => ?_⟩
  ·cases i with
   | zero => rw [Nat.zero_mul, List.drop_zero, List.take_left' hl]; exact h1
   | succ i =>
    rw [show (i + 1) * 38 = 38 + i * 38 by omega, ← List.drop_drop, List.drop_left' hl]
    exact g1.at_ i (by simpa using hi)
  ·rcases List.mem_cons.1 hy with rfl | hy
   ·exact h2
   ·exact g2 y hy
  ·rcases List.mem_cons.1 hy with rfl | hy
   ·exact h3
   ·exact g3 y hy
theorem col_invR {cs : List Value} (h : AD Tryd.prog H (.one 121) cs) : ∃ a : Col, cs = (cc a).cells.toList ∧ a.ok := by
 obtain ⟨a, b, rfl, ha, _, hb⟩ := h.struct_inv.cons_inv
 obtain ⟨c, d, rfl, hc, _, hd⟩ := hb.cons_inv
 obtain ⟨e, f, rfl, he, _, hf⟩ := hd.cons_inv
 rw [hf.nil_inv]
 obtain ⟨kind, rfl, k1, k2⟩ := ha.int_inv
 obtain ⟨n, rfl⟩ := hc.bool_inv
 obtain ⟨s, rfl, s1, s2⟩ := he.int_inv
 exact ⟨⟨kind, n, s⟩, rfl, wf_i64 k1 k2, wf_i64 s1 s2⟩
theorem cols_invR : ∀ {l : Nat} {cs : List Value}, AD Tryd.prog H (.many (List.replicate l 121)) cs → ∃ cols : List Col, cols.length = l ∧ cs = cols3 cols ∧ ∀ a ∈ cols, a.ok
 | 0, cs, h => ⟨[], rfl, h.nil_inv, fun a ha => by cases ha⟩
 | l + 1, cs, h => by
  rw [List.replicate_succ] at h
  obtain ⟨a, b, rfl, ha, hl, hb⟩ := h.cons_inv
  obtain ⟨c, rfl, hc⟩ := col_invR ha
  obtain ⟨cols, h1, rfl, h2⟩ := cols_invR hb
  refine ⟨c :: cols, by simp [h1], rfl, fun x hx => ?_⟩
  rcases List.mem_cons.1 hx with rfl | hx
  ·exact hc
  ·exact h2 x hx
theorem ent_inv {cs : List Value} (h : AD Tryd.prog H (.one 67) cs) : ∃ e : Ent, cs = entc e ∧ (Lit.int .i64 e.g).wf = true := by
 obtain ⟨a, b, rfl, ha, _, hb⟩ := h.struct_inv.cons_inv
 obtain ⟨c, d, rfl, hc, _, hd⟩ := hb.cons_inv
 obtain ⟨e, f, rfl, he, _, hf⟩ := hd.cons_inv
 rw [hf.nil_inv]
 obtain ⟨x, rfl⟩ := hash_inv' ha
 obtain ⟨n, rfl, n1, n2⟩ := hc.int_inv
 obtain ⟨y, rfl⟩ := hash_inv' he
 exact ⟨⟨x, n, y⟩, by rw [List.append_nil]; rfl, wf_i64 n1 n2⟩
theorem rp_arg {u : Value} (h : AV Tryd.prog H 71 u) : ∃ r : Rp, RpE H r u ∧ r.ok ∧ ∀ x ∈ r.blocks, x.lim := by
 obtain ⟨cs, rfl, h1⟩ := h.struct
 obtain ⟨a1, r1, e1, q1, _, h2⟩ := h1.struct_inv.cons_inv
 obtain ⟨a2, r2, rfl, q2, _, h3⟩ := h2.cons_inv
 obtain ⟨a3, r3, rfl, q3, _, h4⟩ := h3.cons_inv
 obtain ⟨a4, r4, rfl, q4, _, h5⟩ := h4.cons_inv
 obtain ⟨a5, r5, rfl, q5, _, h6⟩ := h5.cons_inv
 obtain ⟨a6, r6, rfl, q6, _, h7⟩ := h6.cons_inv
 rw [h7.nil_inv] at e1
 obtain ⟨s, rfl, s1, s2⟩ := q1.int_inv
 obtain ⟨root, rfl⟩ := hash_inv' q2
 obtain ⟨ent, rfl, o1⟩ := ent_inv q3
 obtain ⟨A, l, c, cells, rfl, p1, _, p2, _, _, p3⟩ := SLC_invS q4
 obtain ⟨path, rfl, rfl⟩ := hashes_inv' p3
 obtain ⟨B, l2, d, cells2, rfl, t1, _, t2, _, _, t3⟩ := SLC_invS q5
 obtain ⟨cols, rfl, rfl, t4⟩ := cols_invR t3
 obtain ⟨C, l3, f, cells3, rfl, b1, _, b2, _, _, b3⟩ := SLC_invS q6
 obtain ⟨bl, rfl, b4, b5, b6⟩ := sps_inv b3
 refine ⟨⟨s, root, ent, path, cols, bl⟩, ⟨A, c, B, d, C, f, cells3, ?_, p1, t1, b1, b4⟩, ⟨o1, p2, t2, t4, b2, b5⟩, b6⟩
 rw [show cs = (rpc ⟨s, root, ent, path, cols, bl⟩ (.slice A path.length c) (.slice B cols.length d) (.slice C bl.length f)).toArray from Array.toList_inj.1 (by rw [e1]; simp [List.append_assoc])]
end
end Go.Proofs.YteoofihjmldllaaDoor

/- ReplyBack over whatever abstract arguments. No condition. -/
set_option linter.unusedVariables false
set_option maxRecDepth 100000
namespace Go.Proofs.YteoofihjmldllaaDoor
open Go Go.Ab
theorem plain_intZ {k : IntKind} : (∀ fs, TypeDesc.int k ≠ .struct fs) ∧ ∀ n e', TypeDesc.int k ≠ .array n e' := ⟨fun _ h => (TypeDesc.noConfusion h), fun _ _ h => (TypeDesc.noConfusion h)⟩
theorem int_argZ {H : Hp} {u : Value} (h : AV Tryd.prog H 3 u) : ∃ n : Int, u = .int .i64 n ∧ -9223372036854775808 ≤ n ∧ n ≤ 9223372036854775807 := by
 obtain ⟨n, e, h1, h2⟩ := (h.plain plain_intZ).int_inv
 injection e with e
 exact ⟨n, e, h1, h2⟩
theorem replyBack_any (H : Hp) (k : Nat) (us : List Value) (ht : H 1 = some hBlk) (h : AVs Tryd.prog H Tryd.f7.params.toList us) : ACalls Tryd.prog 3 7 us H k fun v _ _ => v = .bool true := by
 rw [Tryd.params7] at h
 obtain ⟨u1, r1, rfl, h1, h⟩ := AVs.cons_inv h
 obtain ⟨u2, r2, rfl, h2, h⟩ := AVs.cons_inv h
 cases AVs.nil_inv h
 obtain ⟨r, g1, g2, g3⟩ := rp_arg h1
 obtain ⟨x, rfl, x1, x2⟩ := int_argZ h2
 exact replyBack H k ht r g2 g3 _ g1 x x1 x2
end Go.Proofs.YteoofihjmldllaaDoor
