/- The functions that the law reaches. -/
import Derived.Test.YtjdjdlbhaphiiaaGreatDoorVe
import GoSem.ClaimFn
import GoSem.ClaimGoes
import Derived.KernelRfl
set_option linter.unusedVariables false
set_option linter.unusedSimpArgs false
namespace Go.Vm
open Go.Proofs
noncomputable def leadF (P : Program) (fn : T Func) (f : Nat) : List Nat := Option.rec (motive := fun _ => List Nat) ((P.funcs[f]?).elim [] P.leadsTo) (fun d => P.leadsTo d) (fn.get f)
theorem leadF_eq {P : Program} {fn : T Func} (h : ∀ f d, fn.get f = some d → P.funcs[f]? = some d) (f : Nat) : leadF P fn f = (P.funcs[f]?).elim [] P.leadsTo := by
  unfold leadF
  cases hd : fn.get f with
  | none => rfl
  | some d => rw [h f d hd]; rfl
noncomputable def pushK {β : Type} (l t : List Nat) (k : List Nat → β) : β := List.rec (motive := fun _ => (List Nat → β) → β) (fun k => k t) (fun a _ ih k => forceN a fun a => ih fun r => k (a :: r)) l k
theorem pushK_eq {β : Type} : ∀ (l t : List Nat) (k : List Nat → β), pushK l t k = k (l ++ t) := by
  intro l
  induction l with
  | nil => intro t k; rfl
  | cons a l ih =>
    intro t k
    show forceN a (fun a => pushK l t fun r => k (a :: r)) = _
    rw [forceN_eq, ih]; rfl
noncomputable def cloK (lead : Nat → List Nat) (n : Nat) : List Nat → List Nat → T Bool → Option (List Nat) :=
  Nat.rec (motive := fun _ => List Nat → List Nat → T Bool → Option (List Nat)) (fun _ _ _ => none)
    (fun _ ih todo seen st => List.rec (motive := fun _ => Option (List Nat)) (some seen) (fun f todo _ =>
      Option.rec (motive := fun _ => Option (List Nat)) (pushK (lead f) todo fun t => T.setK (some true) (path f) st fun st => ih t (f :: seen) st) (fun _ => ih todo seen st) (st.get f)) todo) n
theorem cloK_ok {P : Program} {lead : Nat → List Nat} (hl : ∀ f, lead f = (P.funcs[f]?).elim [] P.leadsTo) : ∀ (n : Nat) (todo seen : List Nat) (st : T Bool) (r : List Nat), (∀ f, (st.get f).isSome = seen.contains f) → cloK lead n todo seen st = some r →
    ∀ m, n ≤ m → P.closureVia m todo seen = r.reverse := by
  intro n
  induction n with
  | zero => intro todo seen st r _ h; cases h
  | succ n ih =>
    intro todo seen st r hs h m hm
    obtain ⟨m, rfl⟩ : ∃ k, m = k + 1 := ⟨m - 1, by omega⟩
    cases todo with
    | nil => cases h; rfl
    | cons f todo =>
      have h : Option.rec (motive := fun _ => Option (List Nat)) (pushK (lead f) todo fun t => T.setK (some true) (path f) st fun st => cloK lead n t (f :: seen) st) (fun _ => cloK lead n todo seen st) (st.get f) = some r := h
      have hf := hs f
      unfold Program.closureVia
      cases hg : st.get f with
      | some b =>
        rw [hg] at h hf
        rw [if_pos (show seen.contains f = true from hf.symm)]
        exact ih todo seen st r hs h m (by omega)
      | none =>
        rw [hg] at h hf
        rw [if_neg (show ¬ seen.contains f = true by rw [← hf]; decide)]
        dsimp only at h
        rw [pushK_eq, T.setK_eq, hl] at h
        refine ih _ _ _ r (fun g => ?_) h m (by omega)
        have e := T.get_set (some true) f g st
        have e' : (T.setP (some true) (path f) st).get g = if f = g then some true else st.get g := e
        rw [e', List.contains_cons]
        by_cases hfg : f = g
        · subst hfg; simp
        · rw [if_neg hfg, hs g]
          have : (g == f) = false := by simpa using fun h => hfg h.symm
          rw [this]; simp
set_option maxRecDepth 100000
theorem fuelT : Nat.ble 1400 (1 + (Tryz.prog.funcs.toList.map fun g => (Tryz.prog.leadsTo g).length + 1).sum) = true := by kernel_rfl
def cl3 : List Nat := [3, 5, 15, 29, 62, 124, 125, 126, 30, 31, 32, 63, 64, 127, 227, 384, 228, 385, 229, 230, 231, 24, 54, 115, 220, 376, 484, 377, 378, 379, 485, 55, 116, 221, 117, 232, 233, 386, 486, 561, 499, 403, 500, 568, 603, 569, 604, 234, 387, 235, 236, 388, 351, 470, 557, 237, 65, 128, 239, 398, 399, 238, 389, 395, 492, 390, 487, 391, 488, 489, 392, 490, 491, 562, 393, 394, 396, 397, 129, 66, 130, 240, 400, 401, 493, 494, 564, 563, 589, 610, 611, 634, 612, 613, 635, 636, 647, 614, 615, 616, 617, 565, 590, 454, 534, 578, 579, 591, 618, 638, 637, 592, 619, 639, 620, 640, 648, 593, 566, 594, 621, 641, 649, 650, 654, 655, 651, 652, 656, 657, 658, 659, 495, 496, 497, 567, 595, 596, 622, 597, 598, 623, 624, 642, 599, 600, 601, 602, 498, 241, 131, 132, 242, 402, 219, 364, 375, 243, 114, 218, 111, 133, 244, 134, 67, 104, 207, 135, 245, 352, 471, 558, 472, 404, 68, 136, 137, 246, 69, 139, 138, 247, 71, 70, 140, 141, 248, 17, 51, 143, 142, 249, 144, 145, 251, 406, 250, 405, 501, 146, 147, 148, 72, 73, 149, 153, 166, 252, 296, 253, 407, 254, 303, 431, 302, 299, 432, 255, 408, 502, 503, 256, 409, 440, 105, 504, 505, 570, 571, 410, 506, 289, 424, 517, 214, 372, 425, 507, 295, 357, 474, 559, 475, 428, 277, 416, 512, 513, 417, 373, 482, 514, 573, 290, 418, 217, 150, 257, 411, 329, 258, 276, 259, 201, 353, 355, 354, 330, 414, 328, 281, 260, 261, 263, 413, 262, 412, 508, 572, 509, 370, 481, 560, 587, 588, 510, 369, 480, 264, 265, 266, 415, 511, 216, 374, 483, 267, 268, 293, 426, 518, 326, 519, 574, 520, 269, 270, 271, 272, 273, 274, 275, 151, 193, 338, 278, 152, 191, 279, 154, 155, 205, 358, 280, 419, 156, 282, 74, 157, 158, 283, 420, 284, 421, 422, 515, 113, 516, 159, 160, 161, 162, 285, 286, 423, 478, 479, 427, 287, 288, 291, 292, 294, 75, 163, 297, 429, 521, 522, 430, 164, 298, 165, 167, 168, 300, 301, 76, 33, 77, 78, 169, 304, 433, 27, 61, 123, 225, 226, 523, 575, 524, 525, 434, 79, 170, 171, 305, 306, 435, 526, 576, 605, 606, 436, 437, 527, 438, 307, 172, 173, 34, 36, 80, 35, 37, 81, 82, 174, 56, 118, 222, 380, 57, 223, 381, 175, 16, 38, 83, 84, 176, 308, 180, 187, 108, 211, 367, 212, 368, 110, 213, 371, 318, 190, 181, 319, 320, 448, 189, 112, 215, 188, 327, 451, 532, 452, 533, 449, 204, 356, 473, 192, 332, 331, 333, 335, 453, 334, 337, 455, 535, 336, 450, 343, 465, 464, 466, 309, 177, 310, 439, 528, 311, 441, 442, 443, 312, 178, 313, 444, 530, 529, 577, 340, 462, 463, 445, 477, 341, 317, 447, 186, 210, 366, 185, 322, 323, 324, 325, 316, 184, 321, 209, 342, 446, 531, 314, 101, 203, 315, 179, 93, 10, 20, 85, 89, 39, 86, 40, 87, 41, 88, 90, 182, 42, 91, 183, 92, 94, 43, 95, 44, 96, 194, 339, 456, 360, 476, 457, 458, 359, 361, 345, 467, 548, 53, 109, 346, 468, 536, 349, 469, 549, 550, 584, 551, 552, 585, 586, 609, 553, 554, 555, 556, 537, 538, 539, 459, 540, 460, 541, 461, 542, 543, 545, 582, 544, 580, 607, 581, 608, 625, 631, 646, 626, 643, 627, 628, 644, 645, 653, 629, 630, 632, 633, 546, 583, 547, 97, 195, 196, 197, 198, 199, 347, 348, 350, 344, 200, 45, 46, 47, 98, 7, 18, 19, 99, 48, 100, 202, 103, 206, 362, 363, 102, 49, 50, 106, 107, 208, 365, 12, 8, 6, 9, 11, 21]
theorem fnT_ok : ∀ f d, fnTTryz.get f = some d → Tryz.prog.funcs[f]? = some d := by
  intro f d h
  rw [fnTTryz_eq] at h
  rcases ofL_get h with ⟨_, h2, _⟩ | h2
  · simpa using h2
  · rw [T.get_nil] at h2; cases h2
theorem clo3 : cloK (leadF Tryz.prog fnTTryz) 1400 [3] [] .nil = some cl3.reverse := by kernel_rfl
theorem closure3 : Tryz.prog.closure 3 = cl3 := by
  unfold Program.closure
  have hf := fuelT
  generalize 1 + (Tryz.prog.funcs.toList.map fun g => (Tryz.prog.leadsTo g).length + 1).sum = N at hf ⊢
  have h := cloK_ok (P := Tryz.prog) (leadF_eq fnT_ok) 1400 [3] [] .nil cl3.reverse (fun f => by rw [T.get_nil]; rfl) clo3 N (Nat.le_of_ble_eq_true hf)
  rw [h, List.reverse_reverse]
end Go.Vm
