/- Part 22 of what the closing text rests on. -/
import Derived.Test.YtdamnoleoakehaaGreatDoorKX21
set_option maxRecDepth 100000
namespace Go.Q
noncomputable section
open Go.RowKit Go.Proofs
open Go.Z hiding cond_false get resF
noncomputable section
def gr0 : Cx := ⟨[38, -1, -1, 255, -1, -1], [⟨0, [(0, 1)]⟩, ⟨0, [(2, 1)]⟩], [(.rem, .u8, ⟨0, [(3, 1)]⟩, (lit 4), (some (lit 0)), false)], [], [], []⟩
def wf1r0 : Rn := ⟨gr0, grd, (.l 0 1 ⟨0, [(4, 1)]⟩ ⟨1, [(0, 1), (2, 1)]⟩ (some ⟨0, [(5, 1)]⟩) (lit 0)), false, ⟨3, [(0, 1), (1, 1)]⟩, false, ⟨22, [(0, 1)]⟩, []⟩
def gr1 : Cx := ⟨[38, -1, -1, 255, -1, -1], [⟨0, [(0, 1)]⟩, ⟨0, [(2, 1)]⟩], [(.rem, .u8, ⟨0, [(3, 1)]⟩, (lit 4), (some (lit 1)), false)], [], [], []⟩
def wf1r1 : Rn := ⟨gr1, grd, (.l 0 1 ⟨0, [(4, 1)]⟩ ⟨1, [(0, 1), (2, 1)]⟩ (some ⟨0, [(5, 1)]⟩) (lit 0)), false, ⟨3, [(0, 1), (1, 1)]⟩, false, ⟨22, [(0, 1)]⟩, []⟩
def gr2 : Cx := ⟨[38, -1, -1, 255, -1, -1], [⟨0, [(0, 1)]⟩, ⟨0, [(2, 1)]⟩], [(.rem, .u8, ⟨0, [(3, 1)]⟩, (lit 4), (some (lit 2)), false)], [], [], []⟩
def wf1r2 : Rn := ⟨gr2, grd, (.l 0 1 ⟨0, [(4, 1)]⟩ ⟨1, [(0, 1), (2, 1)]⟩ (some ⟨0, [(5, 1)]⟩) (lit 0)), false, ⟨3, [(0, 1), (1, 1)]⟩, false, ⟨3, [(0, 1), (1, 1)]⟩, []⟩
def gr3 : Cx := ⟨[38, -1, -1, 255, -1, -1], [⟨0, [(0, 1)]⟩, ⟨0, [(2, 1)]⟩], [(.rem, .u8, ⟨0, [(3, 1)]⟩, (lit 4), (some (lit 3)), false)], [], [], []⟩
def wf1r3 : Rn := ⟨gr3, grd, (.l 0 1 ⟨0, [(4, 1)]⟩ ⟨1, [(0, 1), (2, 1)]⟩ (some ⟨0, [(5, 1)]⟩) (lit 0)), false, ⟨3, [(0, 1), (1, 1)]⟩, false, ⟨3, [(0, 1), (1, 1)]⟩, []⟩
def gb : Cx := ⟨[38, -1, -1, 255, -1, -1], [], [(.lss, .i64, ⟨0, [(0, 1)]⟩, ⟨0, [(2, 1)]⟩, none, false)], [], [], []⟩
def wf1b : Rn := ⟨gb, .nil, (.l 0 1 ⟨0, [(4, 1)]⟩ ⟨0, [(2, 1)]⟩ (some ⟨0, [(5, 1)]⟩) ⟨0, [(4, 1)]⟩), false, ⟨3, [(0, 1), (1, 1)]⟩, false, ⟨3, [(0, 1), (1, 1)]⟩, []⟩
def gz : Cx := ⟨[38, -1, -1, 255, -1, -1], [], [], [], [], []⟩
def wf1z : Rn := ⟨gz, .nil, (.c (.slice none 0 0)), false, ⟨3, [(0, 1), (1, 1)]⟩, false, ⟨3, [(0, 1), (1, 1)]⟩, []⟩
def wf0r0 : Rn := ⟨gr0, grd, (.l 0 1 ⟨0, [(4, 1)]⟩ ⟨1, [(0, 1), (2, 1)]⟩ (some ⟨0, [(5, 1)]⟩) (lit 0)), false, ⟨2, [(0, 1)]⟩, false, ⟨22, [(0, 1)]⟩, []⟩
def wf0r1 : Rn := ⟨gr1, grd, (.l 0 1 ⟨0, [(4, 1)]⟩ ⟨1, [(0, 1), (2, 1)]⟩ (some ⟨0, [(5, 1)]⟩) (lit 0)), false, ⟨2, [(0, 1)]⟩, false, ⟨22, [(0, 1)]⟩, []⟩
def wf0r2 : Rn := ⟨gr2, grd, (.l 0 1 ⟨0, [(4, 1)]⟩ ⟨1, [(0, 1), (2, 1)]⟩ (some ⟨0, [(5, 1)]⟩) (lit 0)), false, ⟨2, [(0, 1)]⟩, true, ⟨22, [(0, 1)]⟩, [(125, 1146)]⟩
def wf0r3 : Rn := ⟨gr3, grd, (.l 0 1 ⟨0, [(4, 1)]⟩ ⟨1, [(0, 1), (2, 1)]⟩ (some ⟨0, [(5, 1)]⟩) (lit 0)), false, ⟨2, [(0, 1)]⟩, true, ⟨22, [(0, 1)]⟩, [(125, 1146)]⟩
def wf0b : Rn := ⟨gb, .nil, (.l 0 1 ⟨0, [(4, 1)]⟩ ⟨0, [(2, 1)]⟩ (some ⟨0, [(5, 1)]⟩) ⟨0, [(4, 1)]⟩), false, ⟨2, [(0, 1)]⟩, true, ⟨22, [(0, 1)]⟩, [(125, 1146)]⟩
def wf0z : Rn := ⟨gz, .nil, (.c (.slice none 0 0)), false, ⟨2, [(0, 1)]⟩, true, ⟨22, [(0, 1)]⟩, [(125, 1146)]⟩
def wt1r0 : Rn := ⟨gr0, grd, (.l 0 1 ⟨0, [(4, 1)]⟩ ⟨1, [(0, 1), (2, 1)]⟩ (some ⟨0, [(5, 1)]⟩) (lit 0)), true, ⟨3, [(0, 1), (1, 1)]⟩, true, ⟨22, [(0, 1)]⟩, []⟩
def wt1r1 : Rn := ⟨gr1, grd, (.l 0 1 ⟨0, [(4, 1)]⟩ ⟨1, [(0, 1), (2, 1)]⟩ (some ⟨0, [(5, 1)]⟩) (lit 0)), true, ⟨3, [(0, 1), (1, 1)]⟩, false, ⟨22, [(0, 1)]⟩, []⟩
def wt1r2 : Rn := ⟨gr2, grd, (.l 0 1 ⟨0, [(4, 1)]⟩ ⟨1, [(0, 1), (2, 1)]⟩ (some ⟨0, [(5, 1)]⟩) (lit 0)), true, ⟨3, [(0, 1), (1, 1)]⟩, true, ⟨3, [(0, 1), (1, 1)]⟩, []⟩
def wt1r3 : Rn := ⟨gr3, grd, (.l 0 1 ⟨0, [(4, 1)]⟩ ⟨1, [(0, 1), (2, 1)]⟩ (some ⟨0, [(5, 1)]⟩) (lit 0)), true, ⟨3, [(0, 1), (1, 1)]⟩, true, ⟨3, [(0, 1), (1, 1)]⟩, []⟩
def wt1b : Rn := ⟨gb, .nil, (.l 0 1 ⟨0, [(4, 1)]⟩ ⟨0, [(2, 1)]⟩ (some ⟨0, [(5, 1)]⟩) ⟨0, [(4, 1)]⟩), true, ⟨3, [(0, 1), (1, 1)]⟩, true, ⟨3, [(0, 1), (1, 1)]⟩, []⟩
def wt1z : Rn := ⟨gz, .nil, (.c (.slice none 0 0)), true, ⟨3, [(0, 1), (1, 1)]⟩, true, ⟨3, [(0, 1), (1, 1)]⟩, []⟩
def gxx : Cx := ⟨[39, -1, -1, 255, -1, -1], [], [(.leq, .i64, ⟨2, [(0, 1)]⟩, (lit 40), none, false)], [], [], []⟩
def wxf : Rn := ⟨gxx, .nil, .x 0, false, alG, false, alG, []⟩
def wxt : Rn := ⟨gxx, .nil, .x 0, true, alG, false, alG, []⟩
end
theorem cv_f1r0 : wf1r0.cv = true := by kernel_rfl
theorem go_f1r0 : wf1r0.go = true := by kernel_rfl
theorem cv_f1r1 : wf1r1.cv = true := by kernel_rfl
theorem go_f1r1 : wf1r1.go = true := by kernel_rfl
theorem cv_f1r2 : wf1r2.cv = true := by kernel_rfl
theorem go_f1r2 : wf1r2.go = true := by kernel_rfl
theorem cv_f1r3 : wf1r3.cv = true := by kernel_rfl
theorem go_f1r3 : wf1r3.go = true := by kernel_rfl
theorem cv_f1b : wf1b.cv = true := by kernel_rfl
theorem go_f1b : wf1b.go = true := by kernel_rfl
theorem cv_f1z : wf1z.cv = true := by kernel_rfl
theorem go_f1z : wf1z.go = true := by kernel_rfl
theorem cv_f0r0 : wf0r0.cv = true := by kernel_rfl
theorem go_f0r0 : wf0r0.go = true := by kernel_rfl
theorem cv_f0r1 : wf0r1.cv = true := by kernel_rfl
theorem go_f0r1 : wf0r1.go = true := by kernel_rfl
theorem cv_f0r2 : wf0r2.cv = true := by kernel_rfl
theorem go_f0r2 : wf0r2.go = true := by kernel_rfl
theorem cv_f0r3 : wf0r3.cv = true := by kernel_rfl
theorem go_f0r3 : wf0r3.go = true := by kernel_rfl
theorem cv_f0b : wf0b.cv = true := by kernel_rfl
theorem go_f0b : wf0b.go = true := by kernel_rfl
theorem cv_f0z : wf0z.cv = true := by kernel_rfl
theorem go_f0z : wf0z.go = true := by kernel_rfl
theorem cv_t1r0 : wt1r0.cv = true := by kernel_rfl
theorem go_t1r0 : wt1r0.go = true := by kernel_rfl
theorem cv_t1r1 : wt1r1.cv = true := by kernel_rfl
theorem go_t1r1 : wt1r1.go = true := by kernel_rfl
theorem cv_t1r2 : wt1r2.cv = true := by kernel_rfl
theorem go_t1r2 : wt1r2.go = true := by kernel_rfl
theorem cv_t1r3 : wt1r3.cv = true := by kernel_rfl
theorem go_t1r3 : wt1r3.go = true := by kernel_rfl
theorem cv_t1b : wt1b.cv = true := by kernel_rfl
theorem go_t1b : wt1b.go = true := by kernel_rfl
theorem cv_t1z : wt1z.cv = true := by kernel_rfl
theorem go_t1z : wt1z.go = true := by kernel_rfl
theorem cv_xf : wxf.cv = true := by kernel_rfl
theorem out_xf : wxf.out = true := by kernel_rfl
theorem cv_xt : wxt.cv = true := by kernel_rfl
theorem out_xt : wxt.out = true := by kernel_rfl
end
end Go.Q

