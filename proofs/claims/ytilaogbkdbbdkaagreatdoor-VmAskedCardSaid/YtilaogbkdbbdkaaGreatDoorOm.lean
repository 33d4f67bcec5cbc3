/- Small goals that pay themselves. No condition. -/
import Derived.KernelRfl
import Derived.Lib.Hide
import Derived.WalkKit
import Derived.Test.YtilaogbkdbbdkaaGreatDoorProg
namespace Go.Proofs.YtilaogbkdbbdkaaGreatDoor
theorem iB{p0 p1:Prop}(h0:p0)(h1:p1):RowKit.Hid p0∧RowKit.Hid p1:=⟨h0,h1⟩
theorem iC{p0 p1 p2:Prop}(h0:p0)(h1:p1)(h2:p2):RowKit.Hid p0∧RowKit.Hid p1∧RowKit.Hid p2:=⟨h0,h1,h2⟩
theorem iD{p0 p1 p2 p3:Prop}(h0:p0)(h1:p1)(h2:p2)(h3:p3):RowKit.Hid p0∧RowKit.Hid p1∧RowKit.Hid p2∧RowKit.Hid p3:=⟨h0,h1,h2,h3⟩
theorem iE{p0 p1 p2 p3 p4:Prop}(h0:p0)(h1:p1)(h2:p2)(h3:p3)(h4:p4):RowKit.Hid p0∧RowKit.Hid p1∧RowKit.Hid p2∧RowKit.Hid p3∧RowKit.Hid p4:=⟨h0,h1,h2,h3,h4⟩
theorem iF{p0 p1 p2 p3 p4 p5:Prop}(h0:p0)(h1:p1)(h2:p2)(h3:p3)(h4:p4)(h5:p5):RowKit.Hid p0∧RowKit.Hid p1∧RowKit.Hid p2∧RowKit.Hid p3∧RowKit.Hid p4∧RowKit.Hid p5:=⟨h0,h1,h2,h3,h4,h5⟩
theorem iG{p0 p1 p2 p3 p4 p5 p6:Prop}(h0:p0)(h1:p1)(h2:p2)(h3:p3)(h4:p4)(h5:p5)(h6:p6):RowKit.Hid p0∧RowKit.Hid p1∧RowKit.Hid p2∧RowKit.Hid p3∧RowKit.Hid p4∧RowKit.Hid p5∧RowKit.Hid p6:=⟨h0,h1,h2,h3,h4,h5,h6⟩
theorem iH{p0 p1 p2 p3 p4 p5 p6 p7:Prop}(h0:p0)(h1:p1)(h2:p2)(h3:p3)(h4:p4)(h5:p5)(h6:p6)(h7:p7):RowKit.Hid p0∧RowKit.Hid p1∧RowKit.Hid p2∧RowKit.Hid p3∧RowKit.Hid p4∧RowKit.Hid p5∧RowKit.Hid p6∧RowKit.Hid p7:=⟨h0,h1,h2,h3,h4,h5,h6,h7⟩
theorem iI{p0 p1 p2 p3 p4 p5 p6 p7 p8:Prop}(h0:p0)(h1:p1)(h2:p2)(h3:p3)(h4:p4)(h5:p5)(h6:p6)(h7:p7)(h8:p8):RowKit.Hid p0∧RowKit.Hid p1∧RowKit.Hid p2∧RowKit.Hid p3∧RowKit.Hid p4∧RowKit.Hid p5∧RowKit.Hid p6∧RowKit.Hid p7∧RowKit.Hid p8:=⟨h0,h1,h2,h3,h4,h5,h6,h7,h8⟩
theorem iJ{p0 p1 p2 p3 p4 p5 p6 p7 p8 p9:Prop}(h0:p0)(h1:p1)(h2:p2)(h3:p3)(h4:p4)(h5:p5)(h6:p6)(h7:p7)(h8:p8)(h9:p9):RowKit.Hid p0∧RowKit.Hid p1∧RowKit.Hid p2∧RowKit.Hid p3∧RowKit.Hid p4∧RowKit.Hid p5∧RowKit.Hid p6∧RowKit.Hid p7∧RowKit.Hid p8∧RowKit.Hid p9:=⟨h0,h1,h2,h3,h4,h5,h6,h7,h8,h9⟩
theorem iK{p0 p1 p2 p3 p4 p5 p6 p7 p8 p9 p10:Prop}(h0:p0)(h1:p1)(h2:p2)(h3:p3)(h4:p4)(h5:p5)(h6:p6)(h7:p7)(h8:p8)(h9:p9)(h10:p10):RowKit.Hid p0∧RowKit.Hid p1∧RowKit.Hid p2∧RowKit.Hid p3∧RowKit.Hid p4∧RowKit.Hid p5∧RowKit.Hid p6∧RowKit.Hid p7∧RowKit.Hid p8∧RowKit.Hid p9∧RowKit.Hid p10:=⟨h0,h1,h2,h3,h4,h5,h6,h7,h8,h9,h10⟩
theorem iL{p0 p1 p2 p3 p4 p5 p6 p7 p8 p9 p10 p11:Prop}(h0:p0)(h1:p1)(h2:p2)(h3:p3)(h4:p4)(h5:p5)(h6:p6)(h7:p7)(h8:p8)(h9:p9)(h10:p10)(h11:p11):RowKit.Hid p0∧RowKit.Hid p1∧RowKit.Hid p2∧RowKit.Hid p3∧RowKit.Hid p4∧RowKit.Hid p5∧RowKit.Hid p6∧RowKit.Hid p7∧RowKit.Hid p8∧RowKit.Hid p9∧RowKit.Hid p10∧RowKit.Hid p11:=⟨h0,h1,h2,h3,h4,h5,h6,h7,h8,h9,h10,h11⟩
theorem oM{p:Prop}(h:p:=by omega):p:=h
theorem kR{p:Prop}(h:p:=by kernel_rfl):p:=h
theorem mo{P:Program}{f:FuncId}{a:Array Value}{w:World}{E:Ending}{R:World->Prop}{Q:Ending->World->Prop}(h:Calls P f a w (fun e w'=>e=E∧R w'))(k:∀w',R w'->Q E w'):Calls P f a w Q:=h.mono fun _ w' h=>h.1▸k w' h.2
