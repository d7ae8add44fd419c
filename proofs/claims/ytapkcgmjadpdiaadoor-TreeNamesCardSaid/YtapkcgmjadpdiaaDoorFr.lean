/- Parts of memory, brought to the front and back. -/
import Derived.Test.YtapkcgmjadpdiaaDoorSep
namespace Go.Sp
set_option linter.unusedVariables false
set_option linter.unusedSimpArgs false
section
variable {w : World} {A B C D E F G H I J K L P : HProp}
theorem Holds.f2 (h : Holds w (A * (B * P))) : Holds w (B * (A * P)) := h.to (by ac_rfl)
theorem Holds.b2 (h : Holds w (B * (A * P))) : Holds w (A * (B * P)) := h.to (by ac_rfl)
theorem Holds.f3 (h : Holds w (A * (B * (C * P)))) : Holds w (C * (A * (B * P))) := h.to (by ac_rfl)
theorem Holds.b3 (h : Holds w (C * (A * (B * P)))) : Holds w (A * (B * (C * P))) := h.to (by ac_rfl)
theorem Holds.f4 (h : Holds w (A * (B * (C * (D * P))))) : Holds w (D * (A * (B * (C * P)))) := h.to (by ac_rfl)
theorem Holds.b4 (h : Holds w (D * (A * (B * (C * P))))) : Holds w (A * (B * (C * (D * P)))) := h.to (by ac_rfl)
theorem Holds.f5 (h : Holds w (A * (B * (C * (D * (E * P)))))) : Holds w (E * (A * (B * (C * (D * P))))) := h.to (by ac_rfl)
theorem Holds.b5 (h : Holds w (E * (A * (B * (C * (D * P)))))) : Holds w (A * (B * (C * (D * (E * P))))) := h.to (by ac_rfl)
theorem Holds.f6 (h : Holds w (A * (B * (C * (D * (E * (F * P))))))) : Holds w (F * (A * (B * (C * (D * (E * P)))))) := h.to (by ac_rfl)
theorem Holds.b6 (h : Holds w (F * (A * (B * (C * (D * (E * P))))))) : Holds w (A * (B * (C * (D * (E * (F * P)))))) := h.to (by ac_rfl)
theorem Holds.f7 (h : Holds w (A * (B * (C * (D * (E * (F * (G * P)))))))) : Holds w (G * (A * (B * (C * (D * (E * (F * P))))))) := h.to (by ac_rfl)
theorem Holds.b7 (h : Holds w (G * (A * (B * (C * (D * (E * (F * P)))))))) : Holds w (A * (B * (C * (D * (E * (F * (G * P))))))) := h.to (by ac_rfl)
theorem Holds.f8 (h : Holds w (A * (B * (C * (D * (E * (F * (G * (H * P))))))))) : Holds w (H * (A * (B * (C * (D * (E * (F * (G * P)))))))) := h.to (by ac_rfl)
theorem Holds.b8 (h : Holds w (H * (A * (B * (C * (D * (E * (F * (G * P))))))))) : Holds w (A * (B * (C * (D * (E * (F * (G * (H * P)))))))) := h.to (by ac_rfl)
theorem Holds.f9 (h : Holds w (A * (B * (C * (D * (E * (F * (G * (H * (I * P)))))))))) : Holds w (I * (A * (B * (C * (D * (E * (F * (G * (H * P))))))))) := h.to (by ac_rfl)
theorem Holds.b9 (h : Holds w (I * (A * (B * (C * (D * (E * (F * (G * (H * P)))))))))) : Holds w (A * (B * (C * (D * (E * (F * (G * (H * (I * P))))))))) := h.to (by ac_rfl)
theorem Holds.f10 (h : Holds w (A * (B * (C * (D * (E * (F * (G * (H * (I * (J * P))))))))))) : Holds w (J * (A * (B * (C * (D * (E * (F * (G * (H * (I * P)))))))))) := h.to (by ac_rfl)
theorem Holds.b10 (h : Holds w (J * (A * (B * (C * (D * (E * (F * (G * (H * (I * P))))))))))) : Holds w (A * (B * (C * (D * (E * (F * (G * (H * (I * (J * P)))))))))) := h.to (by ac_rfl)
/-- n parts ahead are let go. -/
theorem Holds.d2 (h : Holds w (A * (B * P))) : Holds w P := h.right.right
theorem Holds.d3 (h : Holds w (A * (B * (C * P)))) : Holds w P := h.right.right.right
theorem Holds.d4 (h : Holds w (A * (B * (C * (D * P))))) : Holds w P := h.right.right.right.right
theorem Holds.d5 (h : Holds w (A * (B * (C * (D * (E * P)))))) : Holds w P := h.right.right.right.right.right
end
end Go.Sp
