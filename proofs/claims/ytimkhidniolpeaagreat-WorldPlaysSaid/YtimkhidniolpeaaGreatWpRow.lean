/- WorldPlays: for every input the law returns true, and its arguments read as they read before. No condition. -/
import Derived.Test.YtimkhidniolpeaaGreatVmRgn
namespace Go.Proofs.YtimkhidniolpeaaGreat
set_option linter.unusedSimpArgs false
set_option linter.unusedVariables false
set_option maxRecDepth 100000
set_option maxHeartbeats 0
open Go.ChangeShapes Go.WideShapes Go.ChangeAt Go.RowKit
theorem nO (os:Os) (started:os.Started) (H:Type) (enc:TypeId×Value→H):
    ReturnsInHanded {} Tryz.checked os 3 .any (Rows.worldPlaysSpec.pre6 enc Tryz.prog Tryz.f3 Rows.worldPlaysRow.domain false) (Rows.worldPlaysSpec.post enc Tryz.prog Tryz.f3 false true false false):=by
 refine returnsInHanded_of_change (C:=Tryz.checked) Tryz.own started (by kernel_rfl) Tryz.func3
  (ChangeSpec.witness6 (enc:=enc) (C:=Tryz.checked) false ⟨#[], #[.agg #[I 0,I 0,I 0,.slice none 0 0,.slice none 0 0],.slice none 0 0],[]⟩ 8 (by kernel_rfl) (by kernel_rfl) (by kernel_rfl) (by kernel_rfl)) ?_
 intro W base args ds gs before hval0 hW hcnd _
 have hval:∀(j:Nat) t v,Tryz.f3.params[j]? =some t→args[j]? =some v→Value.okWide Tryz.prog W .any base t v:=hval0
 have hW':=hW
 obtain ⟨p,q,hA0,hV,rfl,hfz,hnd⟩:=hW
 have hA:DataW.TrodAll enc Tryz.prog W 0 (fun _=>true) true Tryz.f3.params.toList args.toList ds p:=hA0
 rw [Tryz.params3] at hA hval
 obtain ⟨v0,v1,d0,d1,p0,p1,rfl,rfl,rfl,h0,h1⟩:=trodAll_two hA
 obtain ⟨ρ,wd,dd,hd,len,xs,ls,sp,g1,g2,g3,g4,g5,g6,g7,g8,g9,g10,g11,g12,g13,g14⟩:=EI (hval 0 25 v0 rfl rfl) h0
 obtain ⟨ρ',ll,cs,k1,k2,k3,k4,k5,k6,k7,k8⟩:=Od (k:=2) g9 g12 g13 (n8 Tryz.underlying26 (L4 Tryz.underlying26 rfl (hval 1 26 v1 rfl rfl))) h1
 obtain ⟨rows',hc,_⟩:=aC (wu .n) aG Tryz.func3 (Vb ⟨g2,g3,g4,g5,g6,g7,g8,g14⟩ k4)
 have hr:=Us hc (vargs:=[v0,v1]) (w:=W) (ρ:=ρ') (by rw [aa,Hj];exact ⟨aE.mono k1 _ _ g1,k2⟩) k5 (fun i row h=>by
  match i with
  |0=>simp at h;subst h;exact g10.keep k1 (fun _ _=>rfl)
  |1=>simp at h;subst h;exact g11.keep k1 (fun _ _=>rfl)
  |2=>simp at h;subst h;exact k6
  |i+3=>simp at h) (fun i hi=>k7 i (by simpa using hi)) k8
 refine hr.mono fun e W' ⟨he,hb⟩=>?_
 exact ⟨_,he,LF Tryz.laidOut (of_decide_eq_true (by kernel_rfl)) (by kernel_rfl) Tryz.underlying4 rfl (fun l hl=>by match l,hl with |[_,_],_=>rfl) hW' hb⟩
theorem worldPlays_holds:Rows.WorldPlaysSaid:=
 OpenClaim.holds_of_wide 3 Tryz.f3 rfl rfl rfl rfl rfl rfl rfl ⟨rfl,rfl,rfl,rfl,rfl⟩ rfl rfl rfl rfl rfl (by kernel_rfl) Tryz.func3 (by kernel_rfl)
  (of_decide_eq_true (by kernel_rfl)) (by unfold Func.isWrapper;first |(rw [if_pos (by decide+kernel)];kernel_rfl)|(rw [if_neg (by decide+kernel)];exact ⟨rfl,rfl⟩))
  (fun os started H enc _=>nO os started H enc)
#print axioms worldPlays_holds
end Go.Proofs.YtimkhidniolpeaaGreat
