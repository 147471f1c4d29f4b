/- CodeBack: for any raw numbers the law answers true (the walk). -/
import Derived.Test.YtdjbkppdppdcgaaGreatDoorMkH
import Derived.Test.YtdjbkppdppdcgaaGreatDoorMUnA
import Derived.Test.YtdjbkppdppdcgaaGreatDoorMLnD
import Derived.Test.YtdjbkppdppdcgaaGreatDoorMCyD
set_option maxRecDepth 100000
set_option maxHeartbeats 8000000
namespace Go.Proofs.YtdjbkppdppdcgaaGreatDoor
open Go.RowKit
structure PrAt (W:World) (b:Nat) (p:Cp) (n m fc gc:Nat) (fa ga:Option Addr) (xs:List (Cf×Fv)):Prop where
 box:W.heap[b]? =some (.cells #[.slice fa n fc,.slice ga m gc] 25 (0,0))
 pg:PgAt W p n m fa ga xs
 c1:n≤fc
 c2:m≤gc
section
variable {W W':World} {b:Nat} {p q:Cp} {n m fc gc n' m' fc' gc':Nat} {fa ga fa' ga':Option Addr} {xs ys:List (Cf×Fv)} {raw:List Int}
theorem PrAt.under (h:PrAt W b p n m fc gc fa ga xs) (hb:Below W.heap.size W W'):PrAt W' b p n m fc gc fa ga xs:=
 ⟨(hb.block b (Array.getElem?_eq_some_iff.1 h.box).1).trans h.box,h.pg.rise hb,h.c1,h.c2⟩
theorem PrAt.new (h:PgAt W p n m fa ga xs) (h1:n≤fc) (h2:m≤gc):PrAt (W.alloc (.cells #[.slice fa n fc,.slice ga m gc] 25 (0,0))) W.heap.size p n m fc gc fa ga xs:=
 ⟨heap_alloc_new _ _,h.rise ((Below.refl _ _).alloc (Nat.le_refl _) _),h1,h2⟩
theorem PrAt.cs (h:PrAt W b p n m fc gc fa ga xs):W.cell? ⟨b,0,none⟩=some (.slice fa n fc)∧W.cell? ⟨b,1,none⟩=some (.slice ga m gc):=
 ⟨(cell_of_row W b 0 _ _ _ h.box).trans rfl,(cell_of_row W b 1 _ _ _ h.box).trans rfl⟩
theorem PrAt.right (h:PrAt W b (madeC raw) n m fc gc fa ga xs) (hG:Gc W):Calls Tryz.prog 13 #[.agg #[.slice fa n fc,.slice ga m gc]] W fun e W'=>e= .returned .nilIface∧Below W.heap.size W W':=
 (right_all h.pg h.c1 h.c2 (made_tame raw).1 hG).mono fun e W' hp=>by
  rw[made_right] at hp
  exact⟨hp.2,hp.1⟩
theorem PrAt.enc (h:PrAt W b (madeC raw) n m fc gc fa ga xs) (hG:Gc W):Calls Tryz.prog 14 #[.agg #[.slice fa n fc,.slice ga m gc]] W fun e W'=>e= .returned (.tuple #[.string ⟨⟨encodeB (madeC raw)⟩⟩,.nilIface])∧Below W.heap.size W W':=
 (encode_any h.pg h.c1 h.c2 (made_tame raw).1 hG fun _=>by have:=made_bytes_len raw;omega).mono fun e W' hp=>by
  obtain⟨h1,h2⟩:=hp
  rw[made_right] at h2
  exact⟨h2,h1⟩
theorem PrAt.lines (h:PrAt W b (madeC raw) n m fc gc fa ga xs) (hG:Gc W):Calls Tryz.prog 15 #[.agg #[.slice fa n fc,.slice ga m gc]] W fun e W'=>e= .returned (.tuple #[.string ⟨⟨listL (madeC raw)⟩⟩,.nilIface])∧Below W.heap.size W W':=
 (list_any h.pg h.c1 h.c2 (made_tame raw).1 hG (fun _=>by have:=made_lines_len raw;omega) (made_tame raw).2).mono fun e W' hp=>by
  obtain⟨h1,h2⟩:=hp
  rw[made_right] at h2
  exact⟨h2,h1⟩
def PrOut (w:World) (p:Cp) (v:Value) (W':World):Prop:=∃n m fc gc fa ga xs,v= .agg #[.slice fa n fc,.slice ga m gc]∧Below w.heap.size w W'∧PgAt W' p n m fa ga xs∧n≤fc∧m≤gc
theorem dec_made (raw:List Int) (hG:Gc W):Calls Tryz.prog 16 #[.string ⟨⟨encodeB (madeC raw)⟩⟩] W fun e W'=>∃v,e= .returned (.tuple #[v,.nilIface])∧PrOut W (madeC raw) v W':=
 (decode_any (made_bytes_len raw) hG).mono fun e W' hp=>by
  obtain⟨h1,h2⟩:=hp
  have hb:=(made_back raw).1
  have ho:outD (encodeB (madeC raw))=none:=by unfold outD;rw[hb];exact made_right raw
  rw[ho,hb] at h2
  obtain⟨vf,vg,xs,gs,rfl,hp,hown⟩:=h2
  obtain⟨n,m,fa,fc,ga,gc,rfl,rfl,hn,hm,hpg⟩:=hown.pg
  dsimp only at hp
  rw[←hp] at hpg
  exact⟨_,rfl,n,m,fc,gc,fa,ga,xs,rfl,h1,hpg,hn,hm⟩
theorem read_made (raw:List Int) (hG:Gc W) (hE:Ge W):Calls Tryz.prog 17 #[.string ⟨⟨listL (madeC raw)⟩⟩] W fun e W'=>∃v,e= .returned (.tuple #[v,.nilIface])∧PrOut W (madeC raw) v W':=
 (read_any (made_lines_len raw) hG hE).mono fun e W' hp=>by
  obtain⟨h1,h2⟩:=hp
  have hb:=(made_back raw).2
  have ho:outR (listL (madeC raw))=none:=by unfold outR;rw[hb];dsimp only;rw[made_right]
  rw[ho,hb] at h2
  obtain⟨n,m,fa,fc,ga,gc,xs,rfl,hn,hm,hpg⟩:=h2
  exact⟨_,rfl,n,m,fc,gc,fa,ga,xs,rfl,h1,hpg,hn,hm⟩
theorem made_out (hr:RowIs W W.heap.size fa (raw.map (Value.int .i64))) (hok:∀x∈raw,okI x) (hn:raw.length=n):Calls Tryz.prog 12 #[.slice fa n fc] W fun e W'=>∃v,e= .returned v∧PrOut W (madeC raw) v W':=by
 subst hn
 refine(made_any hr hok).mono fun e W' hp=> ?_
 obtain⟨vf,vg,xs,gs,rfl,hb,hown,_,hp⟩:=hp
 obtain⟨n,m,fa,fc,ga,gc,rfl,rfl,hn,hm,hpg⟩:=hown.pg
 rw[hp] at hpg
 exact⟨_,rfl,n,m,fc,gc,fa,ga,xs,rfl,hb,hpg,hn,hm⟩
theorem PrAt.same {b':Nat} (h:PrAt W b p n m fc gc fa ga xs) (h':PrAt W b' q n' m' fc' gc' fa' ga' ys) (hp:CpOk p):Calls Tryz.prog 10 #[.agg #[.slice fa n fc,.slice ga m gc],.agg #[.slice fa' n' fc',.slice ga' m' gc']] W fun e W'=>e= .returned (.bool (sameC p q))∧Below W.heap.size W W':=
 sameC_any (h.pg.lies h.c1 h.c2) (h'.pg.lies h'.c1 h'.c2) hp
end
theorem RowIs.up {w W:World} {A:Option Addr} {l:List Value} (h:RowIs w w.heap.size A l) (hb:Below w.heap.size w W):RowIs W W.heap.size A l:=by
 rcases h with e|⟨g,o,e,hg,hc⟩
 ·exact .inl e
 ·exact .inr ⟨g,o,e,Nat.lt_of_lt_of_le hg hb.size,fun j v hj=>(World.cell?_of_block (a:=⟨g,o+j,none⟩) (hb.block g hg)).trans (hc j v hj)⟩
theorem CodeBack_any {raw other:List Int} {ra oa:Option Addr} {rn on rc oc:Nat} {w:World} (hG:Gc w) (hE:Ge w) (hr:RowIs w w.heap.size ra (raw.map (Value.int .i64))) (ho:RowIs w w.heap.size oa (other.map (Value.int .i64))) (hrk:∀x∈raw,okI x) (hok:∀x∈other,okI x) (hrn:raw.length=rn) (hon:other.length=on):
  Calls Tryz.prog 4 #[.slice ra rn rc,.slice oa on oc] w fun e w'=>e= .returned (.bool true)∧Below w.heap.size w w':=by
 have HG:=Lib.hid hG
 have HE:=Lib.hid hE
 have HMP:Hid (∀W,Below w.heap.size w W→Calls Tryz.prog 12 #[.slice ra rn rc] W fun e W'=>∃v,e= .returned v∧PrOut W (madeC raw) v W'):=Lib.hid fun W hb=>made_out (hr.up hb) hrk hrn
 have HMQ:Hid (∀W,Below w.heap.size w W→Calls Tryz.prog 12 #[.slice oa on oc] W fun e W'=>∃v,e= .returned v∧PrOut W (madeC other) v W'):=Lib.hid fun W hb=>made_out (ho.up hb) hok hon
 have HSP:sameC (madeC raw) (madeC raw)=true:=by rw[made_bytes];simp
 have HSB:=made_bytes raw other
 have HSL:=made_lines raw other
 have hcp:=Lib.hid (made_cp raw)
 obtain⟨SM,hSM⟩:∃SM,sameC (madeC raw) (madeC other)=SM:=⟨_,rfl⟩
 rw[hSM] at HSB HSL
 replace HSB:=HSB.symm
 replace HSL:=HSL.symm
 have HSM:=Lib.hid hSM
 have HSE:=Lib.hid HSP
 clear hG hE hr ho hrk hok hrn hon hSM HSP
 go_enter Tryz.func4,Tryz.ntmps4
 go_upto_region 2 with(go_at_call 7;refine(known_all HG.out HE.out).mono ?_;rintro e w1 ⟨rfl,hb1⟩;have HB1:=Lib.hid hb1;clear hb1)
 go_upto_region 3 with(go_at_call 12;refine(HMP.out _ HB1.out).mono ?_;rintro e w2 ⟨v,rfl,n,m,fc,gc,fa,ga,xs,rfl,hb2,hpg,h1,h2⟩)
 have HP:=Lib.hid (PrAt.new hpg h1 h2)
 have HB2:=Lib.hid ((HB1.out.trans (hb2.mono HB1.out.size)).alloc (Nat.le_trans HB1.out.size hb2.size) (.cells #[.slice fa n fc,.slice ga m gc] 25 (0,0)))
 obtain⟨pb,hpb⟩:∃pb,w2.heap.size=pb:=⟨_,rfl⟩
 obtain⟨W2,hW2⟩:∃W2,w2.alloc (.cells #[.slice fa n fc,.slice ga m gc] 25 (0,0))=W2:=⟨_,rfl⟩
 simp only[hpb,hW2] at HP HB2⊢
 clear hb2 hpb hW2 hpg h1 h2 HMP HB1
 go_upto_region 4 with(go_at_call 12;refine(HMQ.out _ HB2.out).mono ?_;rintro e w3 ⟨v,rfl,n',m',fc',gc',fa',ga',ys,rfl,hb3,hpg,h1,h2⟩)
 have HP3:=Lib.hid ((HP.out.under hb3).under ((Below.refl _ _).alloc (Nat.le_refl _) (.cells #[.slice fa' n' fc',.slice ga' m' gc'] 25 (0,0))))
 have HQ3:=Lib.hid (PrAt.new hpg h1 h2)
 have HB3:=Lib.hid ((HB2.out.trans (hb3.mono HB2.out.size)).alloc (Nat.le_trans HB2.out.size hb3.size) (.cells #[.slice fa' n' fc',.slice ga' m' gc'] 25 (0,0)))
 obtain⟨qb,hqb⟩:∃qb,w3.heap.size=qb:=⟨_,rfl⟩
 obtain⟨W3,hW3⟩:∃W3,w3.alloc (.cells #[.slice fa' n' fc',.slice ga' m' gc'] 25 (0,0))=W3:=⟨_,rfl⟩
 simp only[hqb,hW3] at HP3 HQ3 HB3⊢
 clear hb3 hqb hW3 hpg h1 h2 HMQ HB2 HP
 obtain⟨p0,p1⟩:=HP3.out.cs
 obtain⟨q0,q1⟩:=HQ3.out.cs
 go_upto_region 5 with(go_at_call 13;refine(HP3.out.right (HG.out.up HB3.out)).mono ?_;rintro e w4 ⟨rfl,hb4⟩;have HP4:=Lib.hid (HP3.out.under hb4);have HQ4:=Lib.hid (HQ3.out.under hb4);have HB4:=Lib.hid (HB3.out.trans (hb4.mono HB3.out.size));clear hb4)
 clear p0 p1 q0 q1 HP3 HQ3 HB3
 obtain⟨p0,p1⟩:=HP4.out.cs
 obtain⟨q0,q1⟩:=HQ4.out.cs
 go_upto_region 6 with(go_at_call 13;refine(HQ4.out.right (HG.out.up HB4.out)).mono ?_;rintro e w5 ⟨rfl,hb5⟩;have HP5:=Lib.hid (HP4.out.under hb5);have HQ5:=Lib.hid (HQ4.out.under hb5);have HB5:=Lib.hid (HB4.out.trans (hb5.mono HB4.out.size));clear hb5)
 clear p0 p1 q0 q1 HP4 HQ4 HB4
 obtain⟨p0,p1⟩:=HP5.out.cs
 obtain⟨q0,q1⟩:=HQ5.out.cs
 go_upto_region 7 with(go_at_call 14;refine(HP5.out.enc (HG.out.up HB5.out)).mono ?_;rintro e w6 ⟨rfl,hb6⟩;have HP6:=Lib.hid (HP5.out.under hb6);have HQ6:=Lib.hid (HQ5.out.under hb6);have HB6:=Lib.hid (HB5.out.trans (hb6.mono HB5.out.size));clear hb6)
 clear p0 p1 q0 q1 HP5 HQ5 HB5
 obtain⟨p0,p1⟩:=HP6.out.cs
 obtain⟨q0,q1⟩:=HQ6.out.cs
 go_upto_region 8 with(go_at_call 14;refine(HQ6.out.enc (HG.out.up HB6.out)).mono ?_;rintro e w7 ⟨rfl,hb7⟩;have HP7:=Lib.hid (HP6.out.under hb7);have HQ7:=Lib.hid (HQ6.out.under hb7);have HB7:=Lib.hid (HB6.out.trans (hb7.mono HB6.out.size));clear hb7)
 clear p0 p1 q0 q1 HP6 HQ6 HB6
 obtain⟨p0,p1⟩:=HP7.out.cs
 obtain⟨q0,q1⟩:=HQ7.out.cs
 go_upto_region 9 with(go_at_call 15;refine(HP7.out.lines (HG.out.up HB7.out)).mono ?_;rintro e w8 ⟨rfl,hb8⟩;have HP8:=Lib.hid (HP7.out.under hb8);have HQ8:=Lib.hid (HQ7.out.under hb8);have HB8:=Lib.hid (HB7.out.trans (hb8.mono HB7.out.size));clear hb8)
 clear p0 p1 q0 q1 HP7 HQ7 HB7
 obtain⟨p0,p1⟩:=HP8.out.cs
 obtain⟨q0,q1⟩:=HQ8.out.cs
 go_upto_region 10 with(go_at_call 15;refine(HQ8.out.lines (HG.out.up HB8.out)).mono ?_;rintro e w9 ⟨rfl,hb9⟩;have HP9:=Lib.hid (HP8.out.under hb9);have HQ9:=Lib.hid (HQ8.out.under hb9);have HB9:=Lib.hid (HB8.out.trans (hb9.mono HB8.out.size));clear hb9)
 clear p0 p1 q0 q1 HP8 HQ8 HB8
 go_upto_region 13 with(go_at_call 16;refine(dec_made raw (HG.out.up HB9.out)).mono ?_;rintro e w10 ⟨v,rfl,n1,m1,fc1,gc1,fa1,ga1,xs1,rfl,hb10,hpg,h1,h2⟩)
 have HP10:=Lib.hid ((HP9.out.under hb10).under ((Below.refl _ _).alloc (Nat.le_refl _) (.cells #[.slice fa1 n1 fc1,.slice ga1 m1 gc1] 25 (0,0))))
 have HQ10:=Lib.hid ((HQ9.out.under hb10).under ((Below.refl _ _).alloc (Nat.le_refl _) (.cells #[.slice fa1 n1 fc1,.slice ga1 m1 gc1] 25 (0,0))))
 have HX10:=Lib.hid (PrAt.new hpg h1 h2)
 have HB10:=Lib.hid ((HB9.out.trans (hb10.mono HB9.out.size)).alloc (Nat.le_trans HB9.out.size hb10.size) (.cells #[.slice fa1 n1 fc1,.slice ga1 m1 gc1] 25 (0,0)))
 obtain⟨b1,hbb⟩:∃b1,w10.heap.size=b1:=⟨_,rfl⟩
 obtain⟨W10,hWW⟩:∃W10,w10.alloc (.cells #[.slice fa1 n1 fc1,.slice ga1 m1 gc1] 25 (0,0))=W10:=⟨_,rfl⟩
 simp only[hbb,hWW] at HP10 HQ10 HX10 HB10⊢
 clear hb10 hbb hWW hpg h1 h2 HP9 HQ9 HB9
 go_upto_region 14 with(go_at_call 17;refine(read_made raw (HG.out.up HB10.out) (HE.out.up HB10.out)).mono ?_;rintro e w11 ⟨v,rfl,n2,m2,fc2,gc2,fa2,ga2,xs2,rfl,hb11,hpg,h1,h2⟩)
 have HP11:=Lib.hid ((HP10.out.under hb11).under ((Below.refl _ _).alloc (Nat.le_refl _) (.cells #[.slice fa2 n2 fc2,.slice ga2 m2 gc2] 25 (0,0))))
 have HQ11:=Lib.hid ((HQ10.out.under hb11).under ((Below.refl _ _).alloc (Nat.le_refl _) (.cells #[.slice fa2 n2 fc2,.slice ga2 m2 gc2] 25 (0,0))))
 have HX11:=Lib.hid ((HX10.out.under hb11).under ((Below.refl _ _).alloc (Nat.le_refl _) (.cells #[.slice fa2 n2 fc2,.slice ga2 m2 gc2] 25 (0,0))))
 have HY11:=Lib.hid (PrAt.new hpg h1 h2)
 have HB11:=Lib.hid ((HB10.out.trans (hb11.mono HB10.out.size)).alloc (Nat.le_trans HB10.out.size hb11.size) (.cells #[.slice fa2 n2 fc2,.slice ga2 m2 gc2] 25 (0,0)))
 obtain⟨b2,hbb⟩:∃b2,w11.heap.size=b2:=⟨_,rfl⟩
 obtain⟨W11,hWW⟩:∃W11,w11.alloc (.cells #[.slice fa2 n2 fc2,.slice ga2 m2 gc2] 25 (0,0))=W11:=⟨_,rfl⟩
 simp only[hbb,hWW] at HP11 HQ11 HX11 HY11 HB11⊢
 clear hb11 hbb hWW hpg h1 h2 HP10 HQ10 HX10 HB10
 obtain⟨p0,p1⟩:=HP11.out.cs
 obtain⟨q0,q1⟩:=HQ11.out.cs
 obtain⟨x0,x1⟩:=HX11.out.cs
 obtain⟨y0,y1⟩:=HY11.out.cs
 go_upto_region 15 with(go_at_call 10;refine(HP11.out.same HQ11.out hcp.out).mono ?_;rintro e w12 ⟨rfl,hb12⟩;have HP12:=Lib.hid (HP11.out.under hb12);have HQ12:=Lib.hid (HQ11.out.under hb12);have HX12:=Lib.hid (HX11.out.under hb12);have HY12:=Lib.hid (HY11.out.under hb12);have HB12:=Lib.hid (HB11.out.trans (hb12.mono HB11.out.size));clear hb12)
 clear p0 p1 q0 q1 x0 x1 y0 y1 HP11 HQ11 HX11 HY11 HB11
 rw[HSM.out]
 obtain⟨p0,p1⟩:=HP12.out.cs
 obtain⟨q0,q1⟩:=HQ12.out.cs
 obtain⟨x0,x1⟩:=HX12.out.cs
 obtain⟨y0,y1⟩:=HY12.out.cs
 go_wp2_with (first
  |(go_at_call 10;refine(HY13.out.same HP13.out hcp.out).mono ?_;rintro e w14 ⟨rfl,hb14⟩;rw[HSE.out];have HB14:=Lib.hid (HB13.out.trans (hb14.mono HB13.out.size));clear hb14)
  |(go_at_call 10;refine(HP12.out.same HX12.out hcp.out).mono ?_;rintro e w13 ⟨rfl,hb13⟩;rw[HSE.out];have HP13:=Lib.hid (HP12.out.under hb13);have HQ13:=Lib.hid (HQ12.out.under hb13);have HX13:=Lib.hid (HX12.out.under hb13);have HY13:=Lib.hid (HY12.out.under hb13);have HB13:=Lib.hid (HB12.out.trans (hb13.mono HB12.out.size));clear hb13;obtain⟨p13a,p13b⟩:=HP13.out.cs;obtain⟨y13a,y13b⟩:=HY13.out.cs))
 go_ret
 exact⟨rfl,HB14.out⟩
end Go.Proofs.YtdjbkppdppdcgaaGreatDoor
