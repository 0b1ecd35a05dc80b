/- What a law of layer 41 is handed, opened. -/
import Derived.Test.YthdmpcnnbminlaaGreatDoorVnN
namespace Go.Proofs.YthdmpcnnbminlaaGreatDoor
open Go.ChangeShapes Go.WideShapes Go.RowKit
set_option linter.unusedVariables false
section
variable {H : Type} {enc : TypeId × Value → H} {w : World} {base : Nat} {spare : Nat → Bool} {held : Bool}
theorem trod_array6 {P:Program} {t e:TypeId} {fuel:Nat} {c0 c1 c2 c3 c4 c5:Value} {x:DataW H×List MemPlace} (ht:P.underlying t=some (.array 6 e)) (hce:P.cellsOf e=1)
  (h:DataW.trod enc P w base spare held fuel t [c0,c1,c2,c3,c4,c5]=some x) :
  ∃y0 y1 y2 y3 y4 y5 n,DataW.trod enc P w base spare held n e [c0]=some y0∧DataW.trod enc P w base spare held n e [c1]=some y1∧DataW.trod enc P w base spare held n e [c2]=some y2∧DataW.trod enc P w base spare held n e [c3]=some y3∧DataW.trod enc P w base spare held n e [c4]=some y4∧DataW.trod enc P w base spare held n e [c5]=some y5:=by
 cases fuel with
 | zero=>simp[DataW.trod]at h
 | succ n=>
  unfold DataW.trod at h
  rw[ht]at h
  have r6:List.range 6 = [0,1,2,3,4,5]:=rfl
  simp[r6,hce]at h
  obtain⟨_,h⟩:=h
  cases h0:DataW.trod enc P w base spare held n e [c0] with
  | none=>simp[h0]at h
  | some y0=>
   cases h1:DataW.trod enc P w base spare held n e [c1] with
   | none=>simp[h0,h1]at h
   | some y1=>
    cases h2:DataW.trod enc P w base spare held n e [c2] with
    | none=>simp[h0,h1,h2]at h
    | some y2=>
     cases h3:DataW.trod enc P w base spare held n e [c3] with
     | none=>simp[h0,h1,h2,h3]at h
     | some y3=>
      cases h4:DataW.trod enc P w base spare held n e [c4] with
      | none=>simp[h0,h1,h2,h3,h4]at h
      | some y4=>
       cases h5:DataW.trod enc P w base spare held n e [c5] with
       | none=>simp[h0,h1,h2,h3,h4,h5]at h
       | some y5=>exact⟨y0,y1,y2,y3,y4,y5,n,h0,h1,h2,h3,h4,h5⟩
theorem list22 {α:Type} {l:List α} (h:l.length=22):∃a0 a1 a2 a3 a4 a5 a6 a7 a8 a9 a10 a11 a12 a13 a14 a15 a16 a17 a18 a19 a20 a21,l = [a0,a1,a2,a3,a4,a5,a6,a7,a8,a9,a10,a11,a12,a13,a14,a15,a16,a17,a18,a19,a20,a21]:=by
 match l,h with
 | [a0,a1,a2,a3,a4,a5,a6,a7,a8,a9,a10,a11,a12,a13,a14,a15,a16,a17,a18,a19,a20,a21],_=>exact⟨a0,a1,a2,a3,a4,a5,a6,a7,a8,a9,a10,a11,a12,a13,a14,a15,a16,a17,a18,a19,a20,a21,rfl⟩
theorem some_getN {α:Type} {l:List α} {i n:Nat} (h:l.length=n) (hi:i<n):∃y,l[i]? = some y:=⟨_,List.getElem?_eq_getElem (by omega)⟩
theorem byte_of {m:Int} (h:Lit.wf (.int .u8 m)):0≤m∧m≤255:=by
 simp[Lit.wf,IntKind.min,IntKind.max,IntKind.signed,IntKind.bits]at h
 omega
set_option maxHeartbeats 4000000 in
set_option maxRecDepth 100000 in
theorem open_play {r:Reach} {b0:Nat} {v:Value} {d:DataW H} {p:List MemPlace} (hv:Value.okWide Tryz.prog w r b0 74 v) (h:DataW.Trod enc Tryz.prog w base spare held 74 v d p) (hw:∀n∈d.weights Tryz.prog 74,n≤reachBytes) :
  ∃A n cp l x P i now,v=plA A n cp x P i now∧EvArg w A n cp l∧SmIn x∧P.size≤140737488355328∧i.size≤140737488355328∧InR now:=by
 obtain⟨cs,rfl,hsz⟩:=okWide_struct Tryz.underlying74 hv
 have hsz22:cs.size=22:=hsz.trans (by kernel_rfl)
 obtain⟨l⟩:=cs
 have hl:l.length=22:=hsz22
 clear hsz hsz22 hv
 obtain⟨a0,a1,a2,a3,a4,a5,a6,a7,a8,a9,a10,a11,a12,a13,a14,a15,a16,a17,a18,a19,a20,a21,rfl⟩:=list22 hl
 clear hl
 obtain⟨fuel,hf⟩:=h
 obtain⟨xs,n,_,hxd,_,hlen,hfs⟩:=DataW.trod_struct Tryz.underlying74 hf
 have hlen5:xs.length=5:=hlen
 simp only[Prod.mk.injEq]at hxd
 obtain⟨y0,hy0⟩:=some_getN (i:=0) hlen5 (by omega)
 have g0:=hfs 0 _ rfl
 rw[hy0]at g0
 obtain⟨y1,hy1⟩:=some_getN (i:=1) hlen5 (by omega)
 have g1:=hfs 1 _ rfl
 rw[hy1]at g1
 obtain⟨y2,hy2⟩:=some_getN (i:=2) hlen5 (by omega)
 have g2:=hfs 2 _ rfl
 rw[hy2]at g2
 obtain⟨y3,hy3⟩:=some_getN (i:=3) hlen5 (by omega)
 have g3:=hfs 3 _ rfl
 rw[hy3]at g3
 obtain⟨y4,hy4⟩:=some_getN (i:=4) hlen5 (by omega)
 have g4:=hfs 4 _ rfl
 rw[hy4]at g4
 have hwe:∀(j:Nat) (t:TypeId) (z:DataW H×List MemPlace),xs[j]? = some z→([24,72,9,9,3]:List TypeId)[j]? = some t→∀k∈z.1.weights Tryz.prog t,k≤reachBytes:=fun j t z hz ht k hk=>hw k (by
  rw[hxd.1]
  simp only[DataW.weights,Tryz.underlying74]
  exact DataW.weights_mem_each (j:=j) (t:=t) (d:=z.1) ht (by simp[hz]) _ hk)
 have hstr:∀(j:Nat) (s:ByteArray) (z:DataW H×List MemPlace),xs[j]? = some z→z.1 = .lit (.string s.data.toList)→(j=2∨j=3)→s.size≤140737488355328:=fun j s z hz hs hj=>by
  have h3:=hwe j 9 z hz (by rcases hj with rfl|rfl <;> rfl) s.data.toList.length (by rw[hs];simp[DataW.weights])
  have e:s.data.toList.length=s.size:=by simp
  rw[e]at h3
  unfold reachBytes at h3
  omega
 obtain⟨s2,e2,d2,_⟩:=DataW.trod_string Tryz.underlying9 g2
 have e2':[a19] = [.string s2]:=e2
 obtain rfl:a19 = .string s2:=by injection e2'
 obtain⟨s3,e3,d3,_⟩:=DataW.trod_string Tryz.underlying9 g3
 have e3':[a20] = [.string s3]:=e3
 obtain rfl:a20 = .string s3:=by injection e3'
 obtain⟨m4,e4,_,w4⟩:=DataW.trod_int Tryz.underlying3 g4
 have e4':[a21] = [.int .i64 m4]:=e4
 obtain rfl:a21 = .int .i64 m4:=by injection e4'
 have hs2:=hstr 2 s2 y2 hy2 (by rw[d2]) (Or.inl rfl)
 have hs3:=hstr 3 s3 y3 hy3 (by rw[d3]) (Or.inr rfl)
 have hnow:InR m4:=by
  unfold InR
  simp[Lit.wf,IntKind.min,IntKind.max,IntKind.signed,IntKind.bits]at w4
  omega
 have g0':DataW.trod enc Tryz.prog w base spare held n 24 [a0]=some y0:=g0
 obtain⟨A,ln,cp,rfl⟩:∃A ln cp,a0 = .slice A ln cp:=by
  rcases Zeg Tryz.underlying24 Tryz.underlying31 (by kernel_rfl) (by kernel_rfl) g0' with ⟨hcs,_⟩|⟨ad,n,c,m,D,Pl,hcs,_⟩
  ·exact⟨none,0,0,by injection hcs⟩
  ·exact⟨some ad,n,c,by injection hcs⟩
 obtain⟨le,q1,q2,q3,q4,q5,_⟩:=evs_of g0' (hwe 0 24 y0 hy0 rfl)
 have g1':DataW.trod enc Tryz.prog w base spare held n 72 [a1,a2,a3,a4,a5,a6,a7,a8,a9,a10,a11,a12,a13,a14,a15,a16,a17,a18]=some y1:=g1
 obtain⟨zs,n1,_,_,_,zlen,zfs⟩:=DataW.trod_struct Tryz.underlying72 g1'
 have zlen8:zs.length=8:=zlen
 obtain⟨zy0,hzy0⟩:=some_getN (i:=0) zlen8 (by omega)
 have zg0:=zfs 0 _ rfl
 rw[hzy0]at zg0
 obtain⟨zy1,hzy1⟩:=some_getN (i:=1) zlen8 (by omega)
 have zg1:=zfs 1 _ rfl
 rw[hzy1]at zg1
 obtain⟨zy2,hzy2⟩:=some_getN (i:=2) zlen8 (by omega)
 have zg2:=zfs 2 _ rfl
 rw[hzy2]at zg2
 obtain⟨zy3,hzy3⟩:=some_getN (i:=3) zlen8 (by omega)
 have zg3:=zfs 3 _ rfl
 rw[hzy3]at zg3
 obtain⟨zy4,hzy4⟩:=some_getN (i:=4) zlen8 (by omega)
 have zg4:=zfs 4 _ rfl
 rw[hzy4]at zg4
 obtain⟨zy5,hzy5⟩:=some_getN (i:=5) zlen8 (by omega)
 have zg5:=zfs 5 _ rfl
 rw[hzy5]at zg5
 obtain⟨zy6,hzy6⟩:=some_getN (i:=6) zlen8 (by omega)
 have zg6:=zfs 6 _ rfl
 rw[hzy6]at zg6
 obtain⟨zy7,hzy7⟩:=some_getN (i:=7) zlen8 (by omega)
 have zg7:=zfs 7 _ rfl
 rw[hzy7]at zg7
 have zg0':DataW.trod enc Tryz.prog w base spare held n1 23 [a1,a2,a3,a4,a5,a6]=some zy0:=zg0
 obtain⟨cs,cn,_,_,_,clen,cfs⟩:=DataW.trod_struct Tryz.underlying23 zg0'
 have clen6:cs.length=6:=clen
 obtain⟨cy0,hcy0⟩:=some_getN (i:=0) clen6 (by omega)
 have cg0:=cfs 0 _ rfl
 rw[hcy0]at cg0
 obtain⟨cm0,ce0,_,_⟩:=DataW.trod_int Tryz.underlying3 cg0
 have ce0':[a1] = [.int .i64 cm0]:=ce0
 obtain rfl:a1 = .int .i64 cm0:=by injection ce0'
 obtain⟨cy1,hcy1⟩:=some_getN (i:=1) clen6 (by omega)
 have cg1:=cfs 1 _ rfl
 rw[hcy1]at cg1
 obtain⟨cm1,ce1,_,_⟩:=DataW.trod_int Tryz.underlying3 cg1
 have ce1':[a2] = [.int .i64 cm1]:=ce1
 obtain rfl:a2 = .int .i64 cm1:=by injection ce1'
 obtain⟨cy2,hcy2⟩:=some_getN (i:=2) clen6 (by omega)
 have cg2:=cfs 2 _ rfl
 rw[hcy2]at cg2
 obtain⟨cm2,ce2,_,_⟩:=DataW.trod_int Tryz.underlying3 cg2
 have ce2':[a3] = [.int .i64 cm2]:=ce2
 obtain rfl:a3 = .int .i64 cm2:=by injection ce2'
 obtain⟨cy3,hcy3⟩:=some_getN (i:=3) clen6 (by omega)
 have cg3:=cfs 3 _ rfl
 rw[hcy3]at cg3
 obtain⟨cm3,ce3,_,_⟩:=DataW.trod_int Tryz.underlying3 cg3
 have ce3':[a4] = [.int .i64 cm3]:=ce3
 obtain rfl:a4 = .int .i64 cm3:=by injection ce3'
 obtain⟨cy4,hcy4⟩:=some_getN (i:=4) clen6 (by omega)
 have cg4:=cfs 4 _ rfl
 rw[hcy4]at cg4
 obtain⟨cm4,ce4,_,_⟩:=DataW.trod_int Tryz.underlying3 cg4
 have ce4':[a5] = [.int .i64 cm4]:=ce4
 obtain rfl:a5 = .int .i64 cm4:=by injection ce4'
 obtain⟨cy5,hcy5⟩:=some_getN (i:=5) clen6 (by omega)
 have cg5:=cfs 5 _ rfl
 rw[hcy5]at cg5
 obtain⟨cm5,ce5,_,_⟩:=DataW.trod_int Tryz.underlying3 cg5
 have ce5':[a6] = [.int .i64 cm5]:=ce5
 obtain rfl:a6 = .int .i64 cm5:=by injection ce5'
 have zg1':DataW.trod enc Tryz.prog w base spare held n1 70 [a7,a8,a9,a10,a11,a12]=some zy1:=zg1
 obtain⟨gy0,gy1,gy2,gy3,gy4,gy5,gn,gg0,gg1,gg2,gg3,gg4,gg5⟩:=trod_array6 Tryz.underlying70 (by kernel_rfl) zg1'
 obtain⟨gm0,ge0,_,_⟩:=DataW.trod_int Tryz.underlying3 gg0
 have ge0':[a7] = [.int .i64 gm0]:=ge0
 obtain rfl:a7 = .int .i64 gm0:=by injection ge0'
 obtain⟨gm1,ge1,_,_⟩:=DataW.trod_int Tryz.underlying3 gg1
 have ge1':[a8] = [.int .i64 gm1]:=ge1
 obtain rfl:a8 = .int .i64 gm1:=by injection ge1'
 obtain⟨gm2,ge2,_,_⟩:=DataW.trod_int Tryz.underlying3 gg2
 have ge2':[a9] = [.int .i64 gm2]:=ge2
 obtain rfl:a9 = .int .i64 gm2:=by injection ge2'
 obtain⟨gm3,ge3,_,_⟩:=DataW.trod_int Tryz.underlying3 gg3
 have ge3':[a10] = [.int .i64 gm3]:=ge3
 obtain rfl:a10 = .int .i64 gm3:=by injection ge3'
 obtain⟨gm4,ge4,_,_⟩:=DataW.trod_int Tryz.underlying3 gg4
 have ge4':[a11] = [.int .i64 gm4]:=ge4
 obtain rfl:a11 = .int .i64 gm4:=by injection ge4'
 obtain⟨gm5,ge5,_,_⟩:=DataW.trod_int Tryz.underlying3 gg5
 have ge5':[a12] = [.int .i64 gm5]:=ge5
 obtain rfl:a12 = .int .i64 gm5:=by injection ge5'
 obtain⟨u2,ue2,_,uw2⟩:=DataW.trod_int Tryz.underlying5 zg2
 have ue2':[a13] = [.int .u8 u2]:=ue2
 obtain rfl:a13 = .int .u8 u2:=by injection ue2'
 obtain⟨u3,ue3,_,uw3⟩:=DataW.trod_int Tryz.underlying5 zg3
 have ue3':[a14] = [.int .u8 u3]:=ue3
 obtain rfl:a14 = .int .u8 u3:=by injection ue3'
 obtain⟨u4,ue4,_,uw4⟩:=DataW.trod_int Tryz.underlying5 zg4
 have ue4':[a15] = [.int .u8 u4]:=ue4
 obtain rfl:a15 = .int .u8 u4:=by injection ue4'
 obtain⟨u5,ue5,_,uw5⟩:=DataW.trod_int Tryz.underlying5 zg5
 have ue5':[a16] = [.int .u8 u5]:=ue5
 obtain rfl:a16 = .int .u8 u5:=by injection ue5'
 obtain⟨u6,ue6,_,uw6⟩:=DataW.trod_int Tryz.underlying5 zg6
 have ue6':[a17] = [.int .u8 u6]:=ue6
 obtain rfl:a17 = .int .u8 u6:=by injection ue6'
 obtain⟨u7,ue7,_,uw7⟩:=DataW.trod_int Tryz.underlying5 zg7
 have ue7':[a18] = [.int .u8 u7]:=ue7
 obtain rfl:a18 = .int .u8 u7:=by injection ue7'
 exact⟨A,ln,cp,le,⟨⟨cm0,cm1,cm2,cm3,cm4,cm5⟩,gm0,gm1,gm2,gm3,gm4,gm5,u2,u3,u4,u5,u6,u7⟩,s2,s3,m4,rfl,⟨q1,q3,q2,q4,q5⟩,⟨byte_of uw2,byte_of uw3,byte_of uw4,byte_of uw5,byte_of uw6,byte_of uw7⟩,hs2,hs3,hnow⟩
end
end Go.Proofs.YthdmpcnnbminlaaGreatDoor
