/- A part of the joined base. -/
import Derived.Test.YtnpfaajhgghpgaaGreatDoorU10
import Derived.Test.YtnpfaajhgghpgaaGreatDoorIter
import Derived.Sort.KeysCollected
set_option linter.unusedVariables false
set_option maxHeartbeats 8000000
set_option maxRecDepth 100000
namespace Go.Proofs.YtnpfaajhgghpgaaGreatDoor
open Go.Shelf Go.RowKit Go.Maps
theorem Zmx (cb:Nat)(half:Int)(U:Nat->Prop)(rs:List Rw)(p i:ByteArray)(w:World)(h:CrAt w cb half U rs)(hp:p.size<=maxLen)(hi:i.size<=maxLen) :
  Calls Tryz.prog 66 #[.pointer (some ⟨cb,0,none⟩),.string p,.string i] w fun e w'=>e = .returned (.bool (doneB rs p i))/\Below w.heap.size w w':=by
 obtain⟨b,last,G,R,h⟩:=h;have hc:w.cell? ⟨cb,11,none⟩=some (.map (some b.db)):=h.blk.cell 11;obtain⟨M,hM,hf⟩:=h.maps.done;have hl:=hM.look lnkKeyed Tryz.underlying137 (zeroBool _) rfl (Zav p i hp hi);rw[hf p i hp hi,Zj4]at hl;obtain⟨q,hq⟩:=zG (doneB rs p i);rw[hq]at hl ⊢;clear h hq;go_enter Tryz.func66,Tryz.ntmps66;go_wp2_with fail;go_ret;exact⟨rfl,Below.refl _ _⟩
theorem Zfb (cb:Nat)(half:Int)(U:Nat->Prop)(rs:List Rw)(p i:ByteArray)(w:World)(h:CrAt w cb half U rs)(hp:p.size<=maxLen)(hi:i.size<=maxLen) :
  Calls Tryz.prog 28 #[.pointer (some ⟨cb,0,none⟩),.string p,.string i] w fun e w'=>e = .returned (.bool ((hidO rs p i).getD false))/\Below w.heap.size w w':=by
 obtain⟨b,last,G,R,h⟩:=h;have hc:w.cell? ⟨cb,13,none⟩=some (.map (some b.hb)):=h.blk.cell 13;obtain⟨M,hM,hf⟩:=h.maps.hid;have hl:=hM.look lnkKeyed Tryz.underlying137 (zeroBool _) rfl (Zav p i hp hi);rw[hf p i hp hi,Zhp]at hl;obtain⟨q,hq⟩:=zG ((hidO rs p i).getD false);rw[hq]at hl ⊢;clear h hq;go_enter Tryz.func28,Tryz.ntmps28;go_wp2_with fail;go_ret;exact⟨rfl,Below.refl _ _⟩
theorem Zhy (cb:Nat)(half:Int)(U:Nat->Prop)(rs:List Rw)(i:ByteArray)(w:World)(h:CrAt w cb half U rs)(hi:i.size<=maxLen) :
  Calls Tryz.prog 65 #[.pointer (some ⟨cb,0,none⟩),.string i] w fun e w'=>e = .returned (.int .i64 (fansN rs i))/\Below w.heap.size w w':=by
 obtain⟨b,last,G,R,h⟩:=h;have hc:w.cell? ⟨cb,17,none⟩=some (.map (some b.nb)):=h.blk.cell 17;have hl:=h.maps.fans.look (string_keyed Tryz.underlying9) Tryz.underlying108 (zeroInt _) rfl (WideMaps.keyOf_string_mk Tryz.underlying9 hi);rw[mapG_at,Zj3]at hl;obtain⟨q,hq⟩:=zG (fansN rs i);rw[hq]at hl ⊢;clear h hq;go_enter Tryz.func65,Tryz.ntmps65;go_wp2_with fail;go_ret;exact⟨rfl,Below.refl _ _⟩
def rdAr (r:Rd):Array Value:=#[.string r.e.src,.int .i64 r.e.num,.int .i64 r.e.tick,.int .i64 r.e.kind,.string r.e.person,.string r.e.item,.int .i64 r.e.value,.string r.e.text,.slice r.A r.n r.c]
def RdAt (w:World)(b off:Nat)(r:Rd):Prop:=w.cell? ⟨b,off,none⟩=some (.string r.e.src)/\w.cell? ⟨b,off+1,none⟩=some (.int .i64 r.e.num)/\w.cell? ⟨b,off+2,none⟩=some (.int .i64 r.e.tick)/\w.cell? ⟨b,off+3,none⟩=some (.int .i64 r.e.kind)/\w.cell? ⟨b,off+4,none⟩=some (.string r.e.person)/\w.cell? ⟨b,off+5,none⟩=some (.string r.e.item)/\w.cell? ⟨b,off+6,none⟩=some (.int .i64 r.e.value)/\w.cell? ⟨b,off+7,none⟩=some (.string r.e.text)/\w.cell? ⟨b,off+8,none⟩=some (.slice r.A r.n r.c)
theorem RdAt.keep {w w':World}{b off:Nat}{r:Rd}(h:RdAt w b off r)(hk:∀j,w'.cell? ⟨b,j,none⟩=w.cell? ⟨b,j,none⟩):RdAt w' b off r:=by
 obtain⟨h0,h1,h2,h3,h4,h5,h6,h7,h8⟩:=h;exact⟨(hk _).trans h0,(hk _).trans h1,(hk _).trans h2,(hk _).trans h3,(hk _).trans h4,(hk _).trans h5,(hk _).trans h6,(hk _).trans h7,(hk _).trans h8⟩
theorem Ztq {w:World}{B:Nat}{A:Option Addr}{n:Nat}{l:List Rd}(h:RowIn w B 9 A n (l.flatMap rdC))(hn:0<n):∃b off,A=some ⟨b,off,none⟩/\b<B/\∀i x,l[i]? = some x->RdAt w b (off+i*9) x:=by
 obtain⟨b,off,hA,hb,hc⟩:=h.at hn;refine⟨b,off,hA,hb,fun i x hx=>?_⟩;have g:=fun j (hj:j<9)=>Zbi rdC 9 Zry l i j x hx hj;have k:=fun j (hj:j<9) u (hu:(rdC x)[j]? = some u)=>hc (i*9+j) u ((g j hj).trans hu);simp only[<-Nat.add_assoc]at k;exact⟨k 0 (by omega) _ rfl,k 1 (by omega) _ rfl,k 2 (by omega) _ rfl,k 3 (by omega) _ rfl,k 4 (by omega) _ rfl,k 5 (by omega) _ rfl,k 6 (by omega) _ rfl,k 7 (by omega) _ rfl,k 8 (by omega) _ rfl⟩
theorem int_t {a b:Int}(h:a=b):(a == b)=true:=by simp[h]
theorem int_f {a b:Int}(h:a≠b):(a == b)=false:=by simp[h]
end Go.Proofs.YtnpfaajhgghpgaaGreatDoor
namespace Go.Proofs.YtnpfaajhgghpgaaGreatDoor
open Go.Shelf Go.RowKit Go.Maps Go.Lib Go.Sort
theorem Zgq {H:Type}{P:Program}{k:TypeId}{R:Value->Option (DataW H×List MemPlace)}{w:World}{b n:Nat}{D:DataW H}(h:w.ownsMap P k R b n D)(hk:P.underlying k=some .string) :
  (strKeys D).Nodup/\∀x,x∈strKeys D↔Maps.has D (.string x)=true:=by
 obtain⟨es,rfl,hp,_⟩:=h.entries (string_keyed hk);obtain⟨es',he,hks⟩:=h.keysOf;injection he with he;subst he;have hstr:∀p∈es,∃x,p.1 = .string x:=by
  intro p hp';obtain⟨v,hv⟩:=hks p hp';obtain⟨x,_,hx,_⟩:=Maps.keyOf_str hk hv;exact⟨x,hx⟩
 refine⟨?_,fun x=>?_⟩
 ·show (es.map fun p=>strOf p.1).Nodup;rw[List.nodup_iff_pairwise_ne,List.pairwise_map];refine hp.imp_of_mem ?_;intro p q hpm hqm hne he;obtain⟨x,hx⟩:=hstr p hpm;obtain⟨y,hy⟩:=hstr q hqm;rw[hx,hy]at he hne;exact hne (by simpa [strOf] using he)
 ·show x∈(es.map fun p=>strOf p.1)↔es.any (fun p=>p.1.sameKey (.string x))=true;rw[List.mem_map,List.any_eq_true];refine⟨?_,?_⟩
  ·rintro ⟨p,hpm,rfl⟩;obtain⟨y,hy⟩:=hstr p hpm;refine⟨p,hpm,?_⟩;rw[hy];exact WideAt.sameKey_self (by trivial)
  ·rintro ⟨p,hpm,he⟩;refine⟨p,hpm,?_⟩;rw[WideAt.sameKey_eq he]
   rfl
def toB (x:List UInt8):ByteArray:=⟨x.toArray⟩
theorem Zet (x:List UInt8):(toB x).data.toList=x:=by simp[toB]
theorem Ztr {f:ByteArray->Bool}{ss:List (List UInt8)}(hn:ss.Nodup)(hm:∀x,x∈ss↔f (toB x)=true):IsNames f ((ss.mergeSort (fun x y=>decide (x<=y))).map toB):=by
 have hs:(ss.mergeSort (fun x y=>decide (x<=y))).Pairwise (fun x y=>decide (x<=y)=true):=
  List.pairwise_mergeSort (fun a b c h1 h2=>by simp only[decide_eq_true_eq] at *;exact List.le_trans h1 h2) (fun a b=>by simp only[Bool.or_eq_true,decide_eq_true_eq];exact List.le_total a b) _
 have hnd:(ss.mergeSort (fun x y=>decide (x<=y))).Nodup:=by
  rw[(List.mergeSort_perm _ _).nodup_iff];exact hn
 refine⟨?_,fun y=>?_⟩
 ·rw[List.pairwise_map];refine (hs.and (List.nodup_iff_pairwise_ne.1 hnd)).imp (fun {a b} hab=>?_);unfold ltN;rw[Zet,Zet];exact Std.lt_of_le_of_ne (of_decide_eq_true hab.1) hab.2
 ·rw[List.mem_map]
  constructor
  ·rintro ⟨x,hx,rfl⟩;rw[List.mem_mergeSort]at hx;exact (hm x).1 hx
  ·intro hy;refine⟨y.data.toList,?_,ba_eq (Zet _)⟩;rw[List.mem_mergeSort,hm];rw[show toB y.data.toList=y from ba_eq (Zet _)];exact hy
theorem Zr9 (l:List (List UInt8)):l.map encStr=(l.map toB).map .string:=by rw[List.map_map];rfl
end Go.Proofs.YtnpfaajhgghpgaaGreatDoor
namespace Go.Proofs.YtnpfaajhgghpgaaGreatDoor
open Go.Shelf Go.RowKit Go.Maps Go.Lib Go.Sort
def stG (S:ByteArray->Bool):ByteArray->Option Value:=fun y=>if S y then some (.bool true) else none
theorem Zgr (S:ByteArray->Bool)(x:ByteArray):∀kl,upd (mapG (stG S)) (.string x.data.toList) (.bool true) kl=mapG (stG (fun y=>S y || decide (y=x))) kl:=fun kl=>by
 rw[mapG_upd];have:updG (stG S) x (.bool true)=stG (fun y=>S y || decide (y=x)):=by
  funext y
  unfold updG stG;by_cases h:y=x
  ·simp[h]
  ·simp[h]
 rw[this]
theorem Zpf (S:ByteArray->Bool)(y:ByteArray):(stG S y).isSome=S y:=by unfold stG;cases S y <;> rfl
def mkS (F:ByteArray->Option Bool)(kd:Int)(l:List Rw):ByteArray->Bool:=fun y=>l.any fun r=>decide (r.e.kind=kd/\F r.e.text=some true/\y=r.e.text)
theorem Zpg (F:ByteArray->Option Bool)(kd:Int)(l:List Rw)(r:Rw):mkS F kd (l++[r])=fun y=>mkS F kd l y || decide (r.e.kind=kd/\F r.e.text=some true/\y=r.e.text):=by
 funext y;unfold mkS;rw[List.any_append];simp
theorem Zfy (cb:Nat)(half:Int)(b:Bs)(last:Ev)(G:ByteArray->Option Value)(R:ByteArray->List Rd)(U:Nat->Prop)(rs:List Rw)(p:ByteArray)(kd:Int)(hbk:Nat)(F:ByteArray->ByteArray->Option Bool)(w:World)(h:CrIn w cb b half last G R U rs)(hF:Is2 okBool w hbk rs.length (boolF F))(hp:p.size<=maxLen)(hb:rs.length<=1000)(hwd:∀t,F p t=some true->∃r∈ownC rs p,r.e.kind=kd/\r.e.text=t) :
  Calls Tryz.prog 71 #[.pointer (some ⟨cb,0,none⟩),.string p,.int .i64 kd,.map (some hbk)] w fun e w'=>∃(A:Option Addr) (c:Nat) (ks:List ByteArray),e = .returned (.slice A ks.length c)/\IsNames (fun y=>decide (F p y=some true)) ks/\w'.ownsRow w.heap.size 9 1 (.slice A ks.length c) ks.length (ks.map .string)/\ks.length<=1000/\Below w.heap.size w w':=by
 obtain⟨A5,c5,hgr,how,hold⟩:=h.ppl.row p;have HREL:=zh (h.rel p);have HSH:Hid (∀r∈ownC rs p,r.e.text.size<=maxLen):=zh (fun r hr=>by have:=(h.sh r (Zj0.1 hr).1).2.2.2;unfold maxLen;omega);have hol:(ownC rs p).length<=1000:=Nat.le_trans (Zjz rs p) hb;obtain⟨l,hl⟩:=zG (ownC rs p);obtain⟨rl,hrl⟩:=zG (R p);rw[hl]at HREL HSH hol hwd;rw[hrl]at hgr how hold HREL;obtain⟨N,hN⟩:=zG (rl.length);have HN:=zh hN;have HNL:Hid (l.length=N):=zh (by rw[<-hN,HREL.o.1]);rw[HNL.o]at hol;rw[hN]at hgr how hold;have HRO:=zh (RowIn.of_own how);have HGR:=zh hgr;have HMP:=zh h.ppl.map;have HWD:=zh hwd;have HFM:=zh hF;obtain⟨w1,hw1e⟩:=zG (w.alloc (.map #[] 0));have HB1:=zA hw1e;have HM1:Hid (MapIs Tryz.prog 9 okBool w1 w.heap.size 0 (mapG (stG (mkS (F p) kd (l.take 0))))):=zh ((by rw[<-hw1e];exact MapIs.made w Tryz.prog 9 okBool:MapIs Tryz.prog 9 okBool w1 w.heap.size 0 (fun _=>none)).congr (fun kl=>by cases kl <;> rfl));have hmm:=@run_makeMap Tryz.prog;have c10:w1.cell? ⟨cb,10,none⟩=some (.map (some b.pb)):=(h.blk.kept (below_kept (S:=fun _=>False) HB1.o (zr _)) (fun h=>h)).cell 10;have HPM1:Hid (MapIs Tryz.prog 9 okSl w1 b.pb rs.length (mapG G)):=zh (HMP.o.kept (below_kept (S:=fun _=>False) HB1.o (zr _)) (fun h=>h));have HGV:Hid ((mapG G (.string p.data.toList)).getD (.slice none 0 0) = .slice A5 N c5):=zh (by rw[mapG_at];exact HGR.o);clear h how hold hgr hl hrl hN hwd hF;go_enter Tryz.func71,Tryz.ntmps71
 go_wp2_with (first
  | (at_lookup;refine Zao _ rfl _ _ 136 rfl 9 181 (string_keyed Tryz.underlying9) Tryz.underlying136 okSl _ (zeroDds _) rfl b.pb _ _ rfl HPM1.o _ _ rfl (WideMaps.keyOf_string_mk Tryz.underlying9 hp) _ HGV.o ?_)
  | fail)
 clear hw1e hmm c10;go_loopw [20] (fun i wr=>∃k:Nat,k<=N/\i = .int .i64 k/\Hid (MapIs Tryz.prog 9 okBool wr w.heap.size k (mapG (stG (mkS (F p) kd (l.take k)))))/\Hid (Below w.heap.size w wr)) (fun i _=>N - (intOf i).toNat)
 case atStart=>exact⟨0,Nat.zero_le _,rfl,HM1,HB1⟩
 case round=>
  clear HM1 HB1 HPM1 HGV;obtain⟨k,hk,rfl,hmap,hbw⟩:=hrel;by_cases hlt:k<N
  ·obtain⟨x,hx⟩:∃x,l[k]? = some x:=⟨l[k]'(by rw[HNL.o];exact hlt),List.getElem?_eq_getElem _⟩
   obtain⟨rd,hrd,hdd⟩:=HREL.o.at hx;obtain⟨g,o,rfl,hgB,hcl⟩:=Ztq HRO.o (by omega);obtain⟨e0,e1,e2,e3,e4,e5,e6,e7,e8⟩:RdAt wr g (o+k*9) rd:=(hcl k rd hrd).keep (fun j=>hbw.o.cell (p:=⟨g,j,none⟩) hgB);have HTK:Hid (mkS (F p) kd (l.take (k+1))=fun y=>mkS (F p) kd (l.take k) y || decide (rd.e.kind=kd/\F p rd.e.text=some true/\y=rd.e.text)):=zh (by rw[Zbd hx,Zpg,hdd.1]);have hts:rd.e.text.size<=maxLen:=by rw[hdd.1];exact HSH.o x (List.mem_of_getElem? hx)
   have hk8:(k:Int)<(N:Int):=by omega
   have hk9:(0:Int)<=(k:Int):=by omega
   have hwz:=hbw.o.size;obtain⟨w3,hw3⟩:=zG (wr.alloc (.cells (rdAr rd) 183));have HBX:Hid (Blk w3 wr.heap.size 183 (rdAr rd)):=zB hw3;have HB3:Hid (Below w.heap.size w w3):=zh (by rw[<-hw3];exact hbw.o.alloc hwz _);have HM3:Hid (MapIs Tryz.prog 9 okBool w3 w.heap.size k (mapG (stG (mkS (F p) kd (l.take k))))):=zh (by rw[<-hw3];exact hmap.o.alloc _);obtain⟨-,-,-,d3,-,-,-,d7,-⟩:=zC9 HBX.o;obtain⟨M,hM,hf⟩:=HFM.o.kept (below_kept (S:=fun _=>False) HB3.o (zr _)) (fun h=>h);have hlk:=hM.look lnkKeyed Tryz.underlying137 (zeroBool _) rfl (Zav p rd.e.text hp hts);rw[hf p rd.e.text hp hts,Zhp]at hlk;have HFV:Hid ((F p rd.e.text).getD false=true↔F p rd.e.text=some true):=zh (by cases F p rd.e.text with|none=>simp|some q=>cases q <;> simp);obtain⟨fv,hfv⟩:=zG ((F p rd.e.text).getD false);rw[hfv]at hlk HFV;unfold rdAr at hw3;clear hcl hx hrd hdd hmap hM hf hfv;by_cases q1:rd.e.kind=kd
   rotate_left
   ·have HS1:Hid (mkS (F p) kd (l.take (k+1))=mkS (F p) kd (l.take k)):=zh (by rw[HTK.o];funext y;simp[q1]);have s1:=int_f q1;clear q1 HTK;go_wp2_with fail;go_roundw
    case rel=>exact⟨k+1,by omega,by go_num,zh (by rw[HS1.o];exact HM3.o.mono (by omega)),HB3⟩
    case measure=>simp[intOf];omega
   have s1:=int_t q1;cases fv
   ·have HS1:Hid (mkS (F p) kd (l.take (k+1))=mkS (F p) kd (l.take k)):=zh (by
     rw[HTK.o];funext y;have:¬(F p rd.e.text=some true):=fun e=>by have:=HFV.o.2 e;cases this
     simp[this])
    clear q1 HTK HFV;go_wp2_with fail;go_roundw
    case rel=>exact⟨k+1,by omega,by go_num,zh (by rw[HS1.o];exact HM3.o.mono (by omega)),HB3⟩
    case measure=>simp[intOf];omega
   ·have HS1:Hid (mkS (F p) kd (l.take (k+1))=fun y=>mkS (F p) kd (l.take k) y || decide (y=rd.e.text)):=zh (by
     rw[HTK.o];funext y;have:F p rd.e.text=some true:=HFV.o.1 rfl;simp[this,q1])
    clear q1 HTK HFV
    go_wp2_with (first
     | (at_mapUpdate;refine Zag _ rfl _ _ _ 67 rfl 9 4 (string_keyed Tryz.underlying9) Tryz.underlying67 okBool w.heap.size _ _ rfl HM3.o (by unfold maxLen;omega) _ (.bool true) _ rfl rfl (WideMaps.keyOf_string_mk Tryz.underlying9 hts) rfl ?_;intro w8 hm8 hg8 hs8)
     | fail)
    have HM8:Hid (MapIs Tryz.prog 9 okBool w8 w.heap.size (k+1) (mapG (stG (mkS (F p) kd (l.take (k+1)))))):=zh (by
     rw[HS1.o];exact hm8.congr (fun kl=>Zgr _ _ kl))
    have HB8:Hid (Below w.heap.size w w8):=zh (HB3.o.grown hg8 HB3.o.size (fun q hq=>by cases hq;exact zr _));clear hm8 hg8 hs8;go_roundw
    case rel=>exact⟨k+1,by omega,by go_num,HM8,HB8⟩
    case measure=>simp[intOf];omega
  ·obtain rfl:N=k:=by omega
   have htl:l.take N=l:=by rw[<-HNL.o,List.take_length]
   rw[htl]at hmap
   have HFI:Hid (∀y,mkS (F p) kd l y=decide (F p y=some true)):=zh (fun y=>by
    rw[Bool.eq_iff_iff,decide_eq_true_eq];unfold mkS;rw[List.any_eq_true]
    constructor
    ·rintro ⟨r,hr,h⟩;obtain⟨h1,h2,h3⟩:=of_decide_eq_true h;rw[h3];exact h2
    ·intro h;obtain⟨r,hr,h1,h2⟩:=HWD.o y h;exact⟨r,hr,decide_eq_true ⟨h1,by rw[h2];exact h,h2.symm⟩⟩)
   obtain⟨D,hD,hview⟩:=hmap.o;have hsz:Maps.size D<=N:=hD.size_le;have HNK:=zh (Zgq hD Tryz.underlying9)
   have HKEY:Hid (∀s,Maps.has D (.string s)=decide (F p (toB s)=some true)):=zh (fun s=>by
    rw[<-Zdj hD,hview,<-HFI.o];exact Zpf (mkS (F p) kd l) (toB s))
   have HK:=zh (callsIn_wide.1 (Tryz.maps_Keys_104 (some w.heap.size) wr));have HS:=zh (callsIn_wide.1 (Tryz.slices_Sorted_keys_103_104 w.heap.size N D (heldElem okBool) wr hD (by unfold maxLen;omega) (by omega)))
   have HKL:Hid ((strKeys D).length<=1000):=zh (by
    have:(strKeys D).length=Maps.size D:=by
     obtain⟨es,rfl,_⟩:=hD.entries (string_keyed Tryz.underlying9);simp[strKeys,Maps.size]
    omega)
   have HWZ:Hid (w.heap.size<=wr.heap.size):=zh hbw.o.size;clear hD hview hsz htl hmap;go_wp2_with fail;refine HK.o.mono ?_;rintro e w5 ⟨rfl,rfl⟩;go_wp2_with fail;refine HS.o.mono ?_;rintro e w6 ⟨v,ss,rfl,hp6,hrow,_,hb6⟩;have HP:=zh hp6;obtain⟨A2,c2,rfl⟩:=own_shape hrow;have HR:=zh hrow;have HB:=zh hb6;clear hp6 hrow hb6;go_wp2_with fail;go_ret;have hks:=Ztr (f:=fun y=>decide (F p y=some true)) ((HP.o.nodup_iff).2 HNK.o.1) (fun x=>by rw[HP.o.mem_iff,HNK.o.2,HKEY.o]);refine⟨A2,c2,(ss.mergeSort (fun x y=>decide (x<=y))).map toB,by simp[List.length_mergeSort],hks,?_,by simp[List.length_mergeSort];rw[HP.o.length_eq];exact HKL.o,(hbw.o.alloc hbw.o.size _).trans (HB.o.mono (by have:=HWZ.o;simp;omega))⟩;rw[List.length_map,List.length_mergeSort,<-Zr9];exact Zgj HR.o (by have:=HWZ.o;simp;omega)
theorem Zcu {f:Rw->Bool}{a b:Int}{rs:List Rw}(h:wordO f a b rs=some true):∃r∈rs,f r=true/\r.e.kind=a:=by
 revert h
 refine snocInd' (p:=fun rs=>wordO f a b rs=some true->∃r∈rs,f r=true/\r.e.kind=a) rs (fun h=>by cases h) (fun l r ih h=>?_);rw[Zb7]at h;split at h
 ·rename_i hc
  rw[Bool.and_eq_true]at hc;injection h with h;exact⟨r,by simp,hc.1,of_decide_eq_true h⟩
 ·obtain⟨x,hx,h1⟩:=ih h;exact⟨x,List.mem_append_left _ hx,h1⟩
theorem Zmy {rs:List Rw}{p t:ByteArray}{a b:Int}(h:wordO (isT p t) a b rs=some true):∃r∈ownC rs p,r.e.kind=a/\r.e.text=t:=by
 obtain⟨r,hr,h1,h2⟩:=Zcu h;unfold isT at h1;obtain⟨h3,h4⟩:=of_decide_eq_true h1;exact⟨r,Zj0.2 ⟨hr,h3⟩,h2,h4⟩
theorem Zi0 (cb:Nat)(half:Int)(U:Nat->Prop)(rs:List Rw)(p:ByteArray)(w:World)(h:CrAt w cb half U rs)(hp:p.size<=maxLen)(hb:rs.length<=1000) :
  Calls Tryz.prog 69 #[.pointer (some ⟨cb,0,none⟩),.string p] w fun e w'=>∃(A:Option Addr) (c:Nat) (ks:List ByteArray),e = .returned (.slice A ks.length c)/\IsNames (fun y=>decide (folO rs p y=some true)) ks/\w'.ownsRow w.heap.size 9 1 (.slice A ks.length c) ks.length (ks.map .string)/\ks.length<=1000/\Below w.heap.size w w':=by
 obtain⟨b,last,G,R,h⟩:=h;have hc:w.cell? ⟨cb,14,none⟩=some (.map (some b.fb)):=h.blk.cell 14;have HM:=zh (Zfy cb half b last G R U rs p 7 b.fb (folO rs) w h h.maps.fol hp hb (fun t ht=>Zmy ht));clear h;go_enter Tryz.func69,Tryz.ntmps69;go_wp2_with fail;refine HM.o.mono ?_;rintro e w1 ⟨A,c,ks,rfl,h1,h2,h3,h4⟩;have H:=zh (And.intro h1 (And.intro h2 (And.intro h3 h4)));clear h1 h2 h3 h4;go_wp2_with fail;go_ret;exact⟨A,c,ks,rfl,H.o⟩
theorem Zhz (cb:Nat)(half:Int)(U:Nat->Prop)(rs:List Rw)(p:ByteArray)(w:World)(h:CrAt w cb half U rs)(hp:p.size<=maxLen)(hb:rs.length<=1000) :
  Calls Tryz.prog 30 #[.pointer (some ⟨cb,0,none⟩),.string p] w fun e w'=>∃(A:Option Addr) (c:Nat) (ks:List ByteArray),e = .returned (.slice A ks.length c)/\IsNames (fun y=>decide (mutO rs p y=some true)) ks/\w'.ownsRow w.heap.size 9 1 (.slice A ks.length c) ks.length (ks.map .string)/\ks.length<=1000/\Below w.heap.size w w':=by
 obtain⟨b,last,G,R,h⟩:=h;have hc:w.cell? ⟨cb,15,none⟩=some (.map (some b.mb)):=h.blk.cell 15;have HM:=zh (Zfy cb half b last G R U rs p 9 b.mb (mutO rs) w h h.maps.mtd hp hb (fun t ht=>Zmy ht));clear h;go_enter Tryz.func30,Tryz.ntmps30;go_wp2_with fail;refine HM.o.mono ?_;rintro e w1 ⟨A,c,ks,rfl,h1,h2,h3,h4⟩;have H:=zh (And.intro h1 (And.intro h2 (And.intro h3 h4)));clear h1 h2 h3 h4;go_wp2_with fail;go_ret;exact⟨A,c,ks,rfl,H.o⟩
end Go.Proofs.YtnpfaajhgghpgaaGreatDoor
namespace Go.Proofs.YtnpfaajhgghpgaaGreatDoor.Ct
open Go.Shelf Go.RowKit Go.Maps
def itC (x:It):List Value:=[.string x.name,.string x.maker,.string x.tags,.int .i64 x.stock,.int .i64 x.price,.int .i64 x.born,.bool x.listed]
def itA (x:It):Value:=.agg #[.string x.name,.string x.maker,.string x.tags,.int .i64 x.stock,.int .i64 x.price,.int .i64 x.born,.bool x.listed]
def stC (s:St):List Value:=.int .i64 s.tick :: .bool s.isborn::itC s.item
theorem Zsa (s:St):(stC s).length=9:=rfl
theorem Zsb:∀(l:List St),∀u∈l.flatMap stC,u.oneCell'=true:=by
 intro l u hu;obtain⟨x,_,hx⟩:=List.mem_flatMap.1 hu;simp[stC,itC]at hx;rcases hx with rfl|rfl|rfl|rfl|rfl|rfl|rfl|rfl|rfl <;> rfl
theorem Zsc:(Tryz.prog.info? 180).map (fun i=>(i.zero,i.size,i.bytes))=some (some (.agg #[.int .i64 0,.bool false,.string ⟨#[]⟩,.string ⟨#[]⟩,.string ⟨#[]⟩,.int .i64 0,.int .i64 0,.int .i64 0,.bool false]),9,96):=by kernel_rfl
def StAt (w:World)(b off:Nat)(s:St):Prop:=
 w.cell? ⟨b,off,none⟩=some (.int .i64 s.tick)/\w.cell? ⟨b,off+1,none⟩=some (.bool s.isborn)/\w.cell? ⟨b,off+2,none⟩=some (.string s.item.name)/\w.cell? ⟨b,off+3,none⟩=some (.string s.item.maker) /\
 w.cell? ⟨b,off+4,none⟩=some (.string s.item.tags)/\w.cell? ⟨b,off+5,none⟩=some (.int .i64 s.item.stock)/\w.cell? ⟨b,off+6,none⟩=some (.int .i64 s.item.price)/\w.cell? ⟨b,off+7,none⟩=some (.int .i64 s.item.born)/\w.cell? ⟨b,off+8,none⟩=some (.bool s.item.listed)
theorem StAt.keep {w w':World}{b off:Nat}{x:St}(h:StAt w b off x)(hk:∀j,w'.cell? ⟨b,j,none⟩=w.cell? ⟨b,j,none⟩):StAt w' b off x:=by
 obtain⟨h0,h1,h2,h3,h4,h5,h6,h7,h8⟩:=h;exact⟨(hk _).trans h0,(hk _).trans h1,(hk _).trans h2,(hk _).trans h3,(hk _).trans h4,(hk _).trans h5,(hk _).trans h6,(hk _).trans h7,(hk _).trans h8⟩
theorem Zrh {w:World}{base:Nat}{g n c:Nat}{e:TypeId}{l:List St}(h:w.ownsRow base e 9 (.slice (some ⟨g,0,none⟩) n c) n (l.flatMap stC)):∀i x,l[i]? = some x->StAt w g (i*9) x:=by
 intro i x hx;have g0:=fun j (hj:j<9)=>Zbi stC 9 Zsa l i j x hx hj;have k:=fun j (hj:j<9) u (hu:(stC x)[j]? = some u)=>h.cells (g:=g) rfl (i*9+j) u ((g0 j hj).trans hu);have e:∀j,(⟨g,0,none⟩:Addr).add j=⟨g,j,none⟩:=fun j=>by rw[at_add,Nat.zero_add]
 simp only[e]at k;exact⟨k 0 (by omega) _ rfl,k 1 (by omega) _ rfl,k 2 (by omega) _ rfl,k 3 (by omega) _ rfl,k 4 (by omega) _ rfl,k 5 (by omega) _ rfl,k 6 (by omega) _ rfl,k 7 (by omega) _ rfl,k 8 (by omega) _ rfl⟩
def okSl:Value->Bool
 | .slice _ _ _=>true
 | _=>false
theorem zeroSl (w:World):(zeroValue 174).run Tryz.prog w = .ok (.slice none 0 0) w:=by kernel_rfl
def mapG (G:ByteArray->Option Value):Lit->Option Value
 | .string l=>G ⟨l.toArray⟩
 | _=>none
theorem mapG_at (G:ByteArray->Option Value)(n:ByteArray):mapG G (.string n.data.toList)=G n:=by simp[mapG]
def updG (G:ByteArray->Option Value)(n:ByteArray)(v:Value):ByteArray->Option Value:=fun x=>if x=n then some v else G x
theorem ba_list (l:List UInt8):(⟨l.toArray⟩:ByteArray).data.toList=l:=by simp
theorem str_same (a b:ByteArray):(Lit.string a.data.toList).sameKey (.string b.data.toList)=decide (a=b):=by
 by_cases h:a=b
 ·subst h;rw[WideAt.sameKey_self (by trivial)];simp
 ·rw[sameKey_ne (fun e=>h (by
   injection e with e;cases a;cases b;exact congrArg _ (Array.toList_inj.1 e)))]
  simp[h]
theorem mapG_upd (G:ByteArray->Option Value)(n:ByteArray)(v:Value):∀kl,upd (mapG G) (.string n.data.toList) v kl=mapG (updG G n v) kl:=by
 intro kl;cases kl with
 | string l=>
  have:=str_same ⟨l.toArray⟩ n;rw[ba_list]at this;unfold upd;rw[this];by_cases h:(⟨l.toArray⟩:ByteArray)=n <;> simp[mapG,updG,h]
 | _=>
  unfold upd;rw[sameKey_ne (by intro h;cases h)]
  rfl
def catCells (a:Bool)(e:Ev)(mb:Nat):Array Value:=#[.bool a,.string e.src,.int .i64 e.num,.int .i64 e.tick,.int .i64 e.kind,.string e.person,.string e.item,.int .i64 e.value,.string e.text,.map (some mb)]
structure CatIn (w:World) (cb mb:Nat) (G:ByteArray->Option Value) (last:Ev) (F:Nat->Prop) (es:List Ev):Prop where
 blk:Blk w cb 177 (catCells (!es.isEmpty) last mb)
 lst:∀l,es.getLast? = some l->last=l
 map:MapIs Tryz.prog 9 okSl w mb es.length (mapG G)
 fc:F cb
 fm:F mb
 lt:∀q,F q->q<w.heap.size
 none_:∀n,rowOf es n = []->G n=none
 some_:∀n,rowOf es n≠[]->∃g cap,G n=some (.slice (some ⟨g,0,none⟩) (rowOf es n).length cap)/\w.ownsRow 0 180 9 (.slice (some ⟨g,0,none⟩) (rowOf es n).length cap) (rowOf es n).length ((rowOf es n).flatMap stC)/\F g/\g≠cb/\g≠mb
 apart:∀n n' v v',n≠n'->G n=some v->G n'=some v'->v.ownBlock≠v'.ownBlock
 rise:Rising es
 may:∀e∈es,catB e=true
 sh:∀e∈es,EvSh e
def CatAt (w:World)(cb:Nat)(F:Nat->Prop)(es:List Ev):Prop:=∃mb G last,CatIn w cb mb G last F es
theorem owns_kept {w w':World}{base e size n:Nat}{v:Value}{xs:List Value}{S:Nat->Prop}(h:w.ownsRow base e size v n xs)(k:Kept S w w')(hS:∀g,v.ownBlock=some g->¬S g):w'.ownsRow base e size v n xs:=by
 rcases hv:v.ownBlock with _|g
 ·refine⟨h.1,?_⟩;rcases h.2 with h1|⟨g,cap,cur,h1,h2⟩
  ·exact Or.inl h1
  ·subst h1;cases hv
 ·have hlt:=(h.lt _ hv).2;refine⟨h.1,?_⟩;rcases h.2 with h1|⟨g',cap,cur,h1,h2,h3,h4⟩
  ·exact Or.inl h1
  ·subst h1;cases hv;exact Or.inr ⟨g',cap,cur,rfl,h2,(k.block _ hlt (hS _ rfl)).trans h3,h4⟩
theorem below_kept {w w':World}{B:Nat}{S:Nat->Prop}(hb:Below B w w')(hB:w.heap.size<=B):Kept S w w':=⟨hb.os,hb.tape,hb.output,hb.size,fun i hi _=>hb.block i (by omega)⟩
theorem CatIn.kept {w w':World}{cb mb:Nat}{G:ByteArray->Option Value}{last:Ev}{F S:Nat->Prop}{es:List Ev}(h:CatIn w cb mb G last F es)(k:Kept S w w')(hS:∀q,F q->¬S q):CatIn w' cb mb G last F es:=by
 refine⟨h.blk.kept k (hS _ h.fc),h.lst,h.map.kept k (hS _ h.fm),h.fc,h.fm,fun q hq=>Nat.lt_of_lt_of_le (h.lt q hq) k.size,h.none_,fun n hn=>?_,h.apart,h.rise,h.may,h.sh⟩;obtain⟨g,cap,h1,h2,h3,h4,h5⟩:=h.some_ n hn;exact⟨g,cap,h1,owns_kept h2 k (fun g' hg=>by cases hg;exact hS _ h3),h3,h4,h5⟩
theorem CatAt.kept {w w':World}{cb:Nat}{F S:Nat->Prop}{es:List Ev}(h:CatAt w cb F es)(k:Kept S w w')(hS:∀q,F q->¬S q):CatAt w' cb F es:=by
 obtain⟨mb,G,last,h⟩:=h;exact⟨mb,G,last,h.kept k hS⟩
theorem CatAt.below {w w':World}{cb:Nat}{F:Nat->Prop}{es:List Ev}(h:CatAt w cb F es)(k:Below w.heap.size w w'):CatAt w' cb F es:=h.kept (below_kept (S:=fun _=>False) k (zr _)) (fun _ _ h=>h)
theorem CatAt.lt {w:World}{cb:Nat}{F:Nat->Prop}{es:List Ev}(h:CatAt w cb F es):∀q,F q->q<w.heap.size:=by
 obtain⟨mb,G,last,h⟩:=h;exact h.lt
theorem Zmz (n:ByteArray):rowOf [] n = []:=rfl
def ev0:Ev:=⟨⟨#[]⟩,0,0,0,⟨#[]⟩,⟨#[]⟩,0,⟨#[]⟩⟩
theorem new_any (w:World):Calls Tryz.prog 75 #[] w fun e w'=>∃cb F,e = .returned (.pointer (some ⟨cb,0,none⟩))/\CatAt w' cb F []/\(∀q,F q->w.heap.size<=q)/\Below w.heap.size w w':=by
 have hmm:=@run_makeMap Tryz.prog;obtain⟨w1,hw1⟩:=zG (w.alloc (.map #[] 0));have z1:Hid (w1.heap.size=w.heap.size+1):=zh (by rw[<-hw1];simp);have hM1:MapIs Tryz.prog 9 okSl w1 w.heap.size 0 (fun _=>none):=by rw[<-hw1];exact MapIs.made _ _ _ _
 have hB1:Below w.heap.size w w1:=by rw[<-hw1];exact (Below.refl _ _).alloc (zr _) _
 have HM:=zh hM1;have HB:=zh hB1;clear hM1 hB1;go_enter Tryz.func75,Tryz.ntmps75;go_wp2_with fail;go_ret;have z:=z1.o;refine⟨w1.heap.size,fun q=>q=w.heap.size\/q=w1.heap.size,rfl,⟨w.heap.size,fun _=>none,ev0,?_⟩,?_,HB.o.alloc (by omega) _⟩
 ·refine⟨Blk.new _ _ _,fun l h=>(by cases h),?_,Or.inr rfl,Or.inl rfl,?_,fun _ _=>rfl,fun n hn=>absurd (Zmz n) hn,fun n n' v v' _ h=>(by cases h),List.Pairwise.nil,fun e he=>(by cases he),fun e he=>(by cases he)⟩
  ·refine (HM.o.alloc _).congr fun kl=>?_;cases kl <;> rfl
  ·rintro q (rfl|rfl) <;> simp <;> omega
 ·rintro q (rfl|rfl) <;> omega
end Go.Proofs.YtnpfaajhgghpgaaGreatDoor.Ct
namespace Go.Proofs.YtnpfaajhgghpgaaGreatDoor.Ct
open Go.Shelf Go.RowKit Go.Maps
theorem Zsd (rb ab g len cap k:Nat)(t:Int)(s:St)(w:World)(h1:w.cell? ⟨rb,0,none⟩=some (.slice (some ⟨g,0,none⟩) len cap))(h2:w.cell? ⟨ab,0,none⟩=some (.int .i64 t))(hk:k<len)(h3:StAt w g (k*9) s) :
  Calls Tryz.prog 102 #[.int .i64 k,.pointer (some ⟨rb,0,none⟩),.pointer (some ⟨ab,0,none⟩)] w fun e w'=>e = .returned (.bool (decide (t<s.tick)))/\∃q,w'=w.drewN q:=by
 obtain⟨e0,_⟩:=h3;have hk8:(k:Int)<(len:Int):=by omega
 have hk9:(0:Int)<=(k:Int):=by omega
 go_enter Tryz.func102,Tryz.ntmps102;go_wp2_with fail;go_quiet (fail);go_wp2_with fail;go_ret;exact⟨rfl,_,rfl⟩
theorem Zle (rb ab g n cap:Nat)(t:Int)(r:List St)(w:World)(hn:r.length=n)(h1:w.cell? ⟨rb,0,none⟩=some (.slice (some ⟨g,0,none⟩) n cap))(h2:w.cell? ⟨ab,0,none⟩=some (.int .i64 t))(h3:∀i s,r[i]? = some s->StAt w g (i*9) s)(hr:r.Pairwise fun a b=>a.tick<=b.tick)(hb:n<=1000000) :
  Calls Tryz.prog 101 #[.int .i64 n,.func (Fn.func 102) #[] #[.pointer (some ⟨rb,0,none⟩),.pointer (some ⟨ab,0,none⟩)]] w fun e w'=>∃k:Nat,e = .returned (.int .i64 k)/\k<=n/\uptoP r t=r.take k/\∃q,w'=w.drewN q:=by
 have HN:=zh hn;have H3:=zh h3;have HR:=zh hr;have H1:=zh h1;have H2:=zh h2;clear h3 hr hn h1 h2;go_enter Tryz.func101,Tryz.ntmps101;go_wp2_with fail;go_loopw [5,6] (fun i j wr=>∃(a b q:Nat),a<=b/\b<=n/\i = .int .i64 a/\j = .int .i64 b/\Hid (∀k s,k<a->r[k]? = some s->s.tick<=t)/\Hid (∀k s,b<=k->r[k]? = some s->t<s.tick)/\wr=w.drewN q) (fun i j _=>(intOf j).toNat - (intOf i).toNat)
 case atStart=>exact⟨0,n,0,Nat.zero_le _,zr _,rfl,rfl,zh (fun k s hk=>by omega),zh (fun k s hk hs=>by have:=(List.getElem?_eq_some_iff.1 hs).1;rw[HN.o]at this;omega),rfl⟩
 case round=>
  obtain⟨a,b,q,hab,hbn,rfl,rfl,hlo,hhi,rfl⟩:=hrel;by_cases hlt:a<b
  ·obtain⟨m,hm⟩:∃m:Nat,m=(a+b) / 2:=⟨_,rfl⟩
   obtain⟨s,hs⟩:∃s,r[m]? = some s:=⟨r[m]'(by rw[HN.o];omega),List.getElem?_eq_getElem _⟩
   have HA:=zh (Zsd rb ab g n cap m t s (w.drewN q) H1.o H2.o (by omega) (H3.o m s hs));have HM2:Hid (((a:Int)+(b:Int)) / 2=(m:Int)):=zh (by omega);have HM:=zh hm;have hmb:m<1000000:=by omega
   clear hm;have HS:=zh hs;clear hs;go_wp2_with fail;rw[HM2.o];refine HA.o.mono ?_;rintro e w1 ⟨rfl,q1,rfl⟩;clear HA;by_cases hgt:t<s.tick
   ·have hd:decide (t<s.tick)=true:=decide_eq_true hgt;have HGT:=zh hgt;clear hgt;go_wp2_with fail;have hm:=HM.o;have hgt:=HGT.o;go_roundw
    case rel=>
     refine⟨a,m,q+q1,by omega,by omega,rfl,rfl,hlo,zh (fun k s' hk hs'=>?_),by first|rfl|simp⟩;rcases Nat.lt_or_eq_of_le hk with h|h
     ·have:=List.pairwise_iff_getElem.1 HR.o m k (List.getElem?_eq_some_iff.1 HS.o).1 (List.getElem?_eq_some_iff.1 hs').1 h;rw[(List.getElem?_eq_some_iff.1 HS.o).2,(List.getElem?_eq_some_iff.1 hs').2]at this;omega
     ·subst h;rw[HS.o]at hs';cases hs';exact hgt
    case measure=>simp[intOf];omega
   ·have hd:decide (t<s.tick)=false:=decide_eq_false hgt;have HGT:=zh hgt;clear hgt;go_wp2_with fail;have hm:=HM.o;have hgt:=HGT.o;go_roundw
    case rel=>
     refine⟨m+1,b,q+q1,by omega,by omega,by go_num,rfl,zh (fun k s' hk hs'=>?_),hhi,by first|rfl|simp⟩;rcases Nat.lt_or_eq_of_le (Nat.le_of_lt_succ hk) with h|h
     ·have:=List.pairwise_iff_getElem.1 HR.o k m (List.getElem?_eq_some_iff.1 hs').1 (List.getElem?_eq_some_iff.1 HS.o).1 h;rw[(List.getElem?_eq_some_iff.1 HS.o).2,(List.getElem?_eq_some_iff.1 hs').2]at this;omega
     ·subst h;rw[HS.o]at hs';cases hs';omega
    case measure=>simp[intOf];omega
  ·obtain rfl:a=b:=by omega
   go_wp2_with fail;go_ret;exact⟨a,rfl,hbn,Zrx (by rw[HN.o];exact hbn) hlo.o (fun s hs=>hhi.o a s (zr _) hs),_,rfl⟩
theorem Zi1 (f:Value)(w:World):Calls Tryz.prog 101 #[.int .i64 0,f] w fun e w'=>e = .returned (.int .i64 0)/\w'=w:=by
 go_enter Tryz.func101,Tryz.ntmps101;go_wp2_with fail;go_loopw [5,6] (fun i j wr=>i = .int .i64 0/\j = .int .i64 0/\wr=w) (fun _ _ _=>0)
 case atStart=>exact⟨rfl,rfl,rfl⟩
 case round=>
  obtain⟨rfl,rfl,rfl⟩:=hrel;go_wp2_with fail;go_ret;exact⟨rfl,rfl⟩
def toldP (x:Option It):Value:=.tuple #[itA (x.getD it0),.bool x.isSome]
theorem Zj9 (cb:Nat)(F:Nat->Prop)(es:List Ev)(n:ByteArray)(t:Int)(w:World)(h:CatAt w cb F es)(hn:n.size<=1000000)(hb:es.length<=1000000) :
  Calls Tryz.prog 68 #[.pointer (some ⟨cb,0,none⟩),.string n,.int .i64 t] w fun e w'=>e = .returned (toldP (atP es n t))/\Below w.heap.size w w':=by
 have hmf:∀(fn:Fn) (first cap:Array Value) (w:World),(Instr.makeFunc fn first cap).run Tryz.prog w = .ok (.func fn first cap) w:=fun _ _ _ _=>rfl;obtain⟨mb,G,last,h⟩:=h;obtain⟨w1,hw1⟩:=zG (w.alloc (.cells #[.int .i64 t] 3));obtain⟨w2,hw2⟩:=zG (w1.alloc (.cells #[.string ⟨#[]⟩,.string ⟨#[]⟩,.string ⟨#[]⟩,.int .i64 0,.int .i64 0,.int .i64 0,.bool false] 95));have hB2:Below w.heap.size w w2:=by rw[<-hw2,<-hw1];exact ((Below.refl _ _).alloc (zr _) _).alloc (by simp) _
 have z1:Hid (w1.heap.size=w.heap.size+1):=zh (by rw[<-hw1];simp);have z2:Hid (w2.heap.size=w.heap.size+2):=zh (by rw[<-hw2,World.size_alloc,z1.o]);have h2:=h.kept (below_kept (S:=fun _=>False) hB2 (zr _)) (fun _ _ h=>h);have hlk:=h2.map.look (string_keyed Tryz.underlying9) Tryz.underlying175 (zeroSl w2) rfl (WideMaps.keyOf_string_mk Tryz.underlying9 (s:=n) (by unfold maxLen;omega));rw[mapG_at]at hlk;have c9:w2.cell? ⟨cb,9,none⟩=some (.map (some mb)):=h2.blk.cell 9;have ba:Blk w2 w.heap.size 3 #[.int .i64 t]:=by rw[<-hw2,<-hw1];exact (Blk.new _ _ _).alloc _
 have bi:Blk w2 w1.heap.size 95 #[.string ⟨#[]⟩,.string ⟨#[]⟩,.string ⟨#[]⟩,.int .i64 0,.int .i64 0,.int .i64 0,.bool false]:=by rw[<-hw2];exact Blk.new _ _ _
 have HPS:Hid (∀(w':World) x0 x1 x2 x3 x4 x5 x6,w2.heap.size<w'.heap.size->Below w.heap.size w w'->Below w.heap.size w (((((((w'.setCell ⟨w1.heap.size,0,none⟩ x0).setCell ⟨w1.heap.size,1,none⟩ x1).setCell ⟨w1.heap.size,2,none⟩ x2).setCell ⟨w1.heap.size,3,none⟩ x3).setCell ⟨w1.heap.size,4,none⟩ x4).setCell ⟨w1.heap.size,5,none⟩ x5).setCell ⟨w1.heap.size,6,none⟩ x6)):=zh (fun w' x0 x1 x2 x3 x4 x5 x6 _ h=>by
  have hq:w.heap.size<=w1.heap.size:=by rw[z1.o];omega
  exact ((((((h.setCell (p:=⟨w1.heap.size,0,none⟩) hq _).setCell (p:=⟨w1.heap.size,1,none⟩) hq _).setCell (p:=⟨w1.heap.size,2,none⟩) hq _).setCell (p:=⟨w1.heap.size,3,none⟩) hq _).setCell (p:=⟨w1.heap.size,4,none⟩) hq _).setCell (p:=⟨w1.heap.size,5,none⟩) hq _).setCell (p:=⟨w1.heap.size,6,none⟩) hq _)
 by_cases hr:rowOf es n = []
 ·rw[h.none_ n hr]at hlk;dsimp only[Option.getD_none]at hlk;have HP:Hid (toldP (atP es n t) = .tuple #[.agg #[.string ⟨#[]⟩,.string ⟨#[]⟩,.string ⟨#[]⟩,.int .i64 0,.int .i64 0,.int .i64 0,.bool false],.bool false]):=zh (by unfold atP;rw[hr];rfl);have HB2:=zh hB2;have HBI:=zh bi;clear h h2 hr hB2 bi ba;go_enter Tryz.func68,Tryz.ntmps68;go_wp2_with fail;obtain⟨w3,hw3⟩:=zG (w2.alloc (.cells #[.slice none 0 0] 174));rw[hw3];have bi3:Blk w3 w1.heap.size 95 #[.string ⟨#[]⟩,.string ⟨#[]⟩,.string ⟨#[]⟩,.int .i64 0,.int .i64 0,.int .i64 0,.bool false]:=by rw[<-hw3];exact HBI.o.alloc _
  have br3:Blk w3 w2.heap.size 174 #[.slice none 0 0]:=by rw[<-hw3];exact Blk.new _ _ _
  have r0:w3.cell? ⟨w2.heap.size,0,none⟩=some (.slice none 0 0):=br3.cell 0;have i0:w3.cell? ⟨w1.heap.size,0,none⟩=some (.string ⟨#[]⟩):=bi3.cell 0;have i1:w3.cell? ⟨w1.heap.size,1,none⟩=some (.string ⟨#[]⟩):=bi3.cell 1;have i2:w3.cell? ⟨w1.heap.size,2,none⟩=some (.string ⟨#[]⟩):=bi3.cell 2;have i3:w3.cell? ⟨w1.heap.size,3,none⟩=some (.int .i64 0):=bi3.cell 3;have i4:w3.cell? ⟨w1.heap.size,4,none⟩=some (.int .i64 0):=bi3.cell 4;have i5:w3.cell? ⟨w1.heap.size,5,none⟩=some (.int .i64 0):=bi3.cell 5;have i6:w3.cell? ⟨w1.heap.size,6,none⟩=some (.bool false):=bi3.cell 6;have f0:w3.frozen? ⟨w1.heap.size,0,none⟩=false:=bi3.frozen 0;have f1:w3.frozen? ⟨w1.heap.size,1,none⟩=false:=bi3.frozen 1;have f2:w3.frozen? ⟨w1.heap.size,2,none⟩=false:=bi3.frozen 2;have f3:w3.frozen? ⟨w1.heap.size,3,none⟩=false:=bi3.frozen 3;have f4:w3.frozen? ⟨w1.heap.size,4,none⟩=false:=bi3.frozen 4;have f5:w3.frozen? ⟨w1.heap.size,5,none⟩=false:=bi3.frozen 5;have f6:w3.frozen? ⟨w1.heap.size,6,none⟩=false:=bi3.frozen 6;have HB3:Hid (Below w.heap.size w w3):=zh (by rw[<-hw3];exact HB2.o.alloc HB2.o.size _);have HZ3:Hid (w2.heap.size<w3.heap.size):=zh (by rw[<-hw3];simp);clear bi3 br3 hw3;refine (Zi1 _ _).mono ?_;rintro e w4 ⟨rfl,rfl⟩;go_wp2_with fail;refine bodyPost_ret (v:=.tuple #[.agg #[.string ⟨#[]⟩,.string ⟨#[]⟩,.string ⟨#[]⟩,.int .i64 0,.int .i64 0,.int .i64 0,.bool false],.bool false]) (by simp[results,Tryz.results68,go_sem,i0,i1,i2,i3,i4,i5,i6]) rfl ⟨?_,?_⟩
  ·rw[HP.o]
  ·exact HPS.o _ _ _ _ _ _ _ _ HZ3.o HB3.o
 ·obtain⟨g,cap,hG,hown,hF,_,_⟩:=h2.some_ n hr;rw[hG]at hlk;dsimp only[Option.getD_some]at hlk;have HB2:=zh hB2;have HBI:=zh bi;have HBA:=zh ba;have HST:=zh (Zrh hown);have HRS:=zh (h.rise.row n);have hrl:=Zj1 es n;have hgl:g<w2.heap.size:=h2.lt g hF;have HAT:Hid (atP es n t=(uptoP (rowOf es n) t).getLast?.map (·.item)):=zh rfl;generalize rowOf es n=r at *;obtain⟨N,hN⟩:=zG (r.length);rw[hN]at hlk hrl;have HN:=zh hN;clear h h2 hr hB2 bi ba hown hN hG hF;go_enter Tryz.func68,Tryz.ntmps68;go_wp2_with fail;obtain⟨w3,hw3⟩:=zG (w2.alloc (.cells #[.slice (some ⟨g,0,none⟩) N cap] 174));rw[hw3];have bi3:Blk w3 w1.heap.size 95 #[.string ⟨#[]⟩,.string ⟨#[]⟩,.string ⟨#[]⟩,.int .i64 0,.int .i64 0,.int .i64 0,.bool false]:=by rw[<-hw3];exact HBI.o.alloc _
  have br3:Blk w3 w2.heap.size 174 #[.slice (some ⟨g,0,none⟩) N cap]:=by rw[<-hw3];exact Blk.new _ _ _
  have r0:w3.cell? ⟨w2.heap.size,0,none⟩=some (.slice (some ⟨g,0,none⟩) N cap):=br3.cell 0;have i0:w3.cell? ⟨w1.heap.size,0,none⟩=some (.string ⟨#[]⟩):=bi3.cell 0;have i1:w3.cell? ⟨w1.heap.size,1,none⟩=some (.string ⟨#[]⟩):=bi3.cell 1;have i2:w3.cell? ⟨w1.heap.size,2,none⟩=some (.string ⟨#[]⟩):=bi3.cell 2;have i3:w3.cell? ⟨w1.heap.size,3,none⟩=some (.int .i64 0):=bi3.cell 3;have i4:w3.cell? ⟨w1.heap.size,4,none⟩=some (.int .i64 0):=bi3.cell 4;have i5:w3.cell? ⟨w1.heap.size,5,none⟩=some (.int .i64 0):=bi3.cell 5;have i6:w3.cell? ⟨w1.heap.size,6,none⟩=some (.bool false):=bi3.cell 6;have f0:w3.frozen? ⟨w1.heap.size,0,none⟩=false:=bi3.frozen 0;have f1:w3.frozen? ⟨w1.heap.size,1,none⟩=false:=bi3.frozen 1;have f2:w3.frozen? ⟨w1.heap.size,2,none⟩=false:=bi3.frozen 2;have f3:w3.frozen? ⟨w1.heap.size,3,none⟩=false:=bi3.frozen 3;have f4:w3.frozen? ⟨w1.heap.size,4,none⟩=false:=bi3.frozen 4;have f5:w3.frozen? ⟨w1.heap.size,5,none⟩=false:=bi3.frozen 5;have f6:w3.frozen? ⟨w1.heap.size,6,none⟩=false:=bi3.frozen 6;have HB3:Hid (Below w.heap.size w w3):=zh (by rw[<-hw3];exact HB2.o.alloc HB2.o.size _);have HZ3:Hid (w2.heap.size<w3.heap.size):=zh (by rw[<-hw3];simp);have ba3:w3.cell? ⟨w.heap.size,0,none⟩=some (.int .i64 t):=by rw[<-hw3];exact (HBA.o.alloc _).cell 0
  have HST3:Hid (∀i x,r[i]? = some x->StAt w3 g (i*9) x):=zh (fun i x hx=>by rw[<-hw3];exact (HST.o i x hx).keep (fun j=>World.cell?_alloc_lt _ _ ⟨g,j,none⟩ hgl));have HS:=zh (Zle w2.heap.size w.heap.size g N cap t r w3 HN.o r0 ba3 HST3.o HRS.o (by omega));clear bi3 br3 hw3 ba3;refine HS.o.mono ?_;rintro e w4 ⟨k,rfl,hk,hup,q,rfl⟩;clear HS HST HRS HBA;rcases k with _|k
  ·have HP:Hid (toldP (atP es n t) = .tuple #[.agg #[.string ⟨#[]⟩,.string ⟨#[]⟩,.string ⟨#[]⟩,.int .i64 0,.int .i64 0,.int .i64 0,.bool false],.bool false]):=zh (by rw[HAT.o,hup];rfl);clear hup;go_wp2_with fail;refine bodyPost_ret (v:=.tuple #[.agg #[.string ⟨#[]⟩,.string ⟨#[]⟩,.string ⟨#[]⟩,.int .i64 0,.int .i64 0,.int .i64 0,.bool false],.bool false]) (by simp[results,Tryz.results68,go_sem,i0,i1,i2,i3,i4,i5,i6]) rfl ⟨?_,?_⟩
   ·rw[HP.o]
   ·exact HPS.o _ _ _ _ _ _ _ _ HZ3.o (below_drewN HB3.o q)
  ·obtain⟨s,hs⟩:∃s,r[k]? = some s:=⟨r[k]'(by rw[HN.o];omega),List.getElem?_eq_getElem _⟩
   obtain⟨e0,e1,e2,e3,e4,e5,e6,e7,e8⟩:=HST3.o k s hs
   have HP:Hid (toldP (atP es n t) = .tuple #[.agg #[.string s.item.name,.string s.item.maker,.string s.item.tags,.int .i64 s.item.stock,.int .i64 s.item.price,.int .i64 s.item.born,.bool s.item.listed],.bool true]):=zh (by
    have:(r.take (k+1)).getLast? = some s:=by rw[List.take_add_one,hs];simp
    rw[HAT.o,hup,this];rfl)
   have hk1:(0:Int)<=((k+1:Nat):Int) - 1:=by omega
   have hk2:((k+1:Nat):Int) - 1<(N:Int):=by omega
   have hk3:(((k+1:Nat):Int) - 1).toNat=k:=by omega
   have hk4:((((k+1:Nat):Int)) == 0)=false:=by rw[beq_eq_false_iff_ne];omega
   clear hup hs HST3 HAT;go_wp2_with fail;refine bodyPost_ret (v:=.tuple #[.agg #[.string s.item.name,.string s.item.maker,.string s.item.tags,.int .i64 s.item.stock,.int .i64 s.item.price,.int .i64 s.item.born,.bool s.item.listed],.bool true]) (by simp[results,Tryz.results68,go_sem,i0,i1,i2,i3,i4,i5,i6]) rfl ⟨?_,?_⟩
   ·rw[HP.o]
   ·exact HPS.o _ _ _ _ _ _ _ _ HZ3.o (below_drewN HB3.o q)
end Go.Proofs.YtnpfaajhgghpgaaGreatDoor.Ct
namespace Go.Proofs.YtnpfaajhgghpgaaGreatDoor.Ct
open Go.Shelf Go.RowKit Go.Maps
theorem CatIn.more {w w':World}{cb mb:Nat}{G:ByteArray->Option Value}{last x:Ev}{F:Nat->Prop}{es:List Ev}{A A':Option Addr}{N cap c':Nat}(h:CatIn w cb mb G last F es)(hC:Blk w' cb 177 (catCells true x mb))
  (hm:MapIs Tryz.prog 9 okSl w' mb (es.length+1) (upd (mapG G) (.string x.item.data.toList) (.slice A' (N+1) c'))) (hk:Kept (fun q=>q=cb\/q=mb\/(Value.slice A N cap).ownBlock=some q) w w') (hG:(G x.item).getD (.slice none 0 0) = .slice A N cap) (hN:(rowOf es x.item).length=N)
  (ho:w'.ownsRow 0 180 9 (.slice A' (N+1) c') (N+1) ((rowOf es x.item).flatMap stC++stC (stepSt ((rowOf es x.item).getLast?.getD (st0 x.item)) x))) (hv:(Value.slice A' (N+1) c').ownBlock=(Value.slice A N cap).ownBlock\/∃g,(Value.slice A' (N+1) c').ownBlock=some g/\w.heap.size<=g) (ht:takesB es x=true) (hmc:mb≠cb) (hsx:EvSh x) :
  CatIn w' cb mb (updG G x.item (.slice A' (N+1) c')) x (fun q=>F q\/(Value.slice A' (N+1) c').ownBlock=some q) (es++[x]):=by
 have hcl:=h.lt _ h.fc;have hml:=h.lt _ h.fm;have hrow:rowOf (es++[x]) x.item=rowOf es x.item++[stepSt ((rowOf es x.item).getLast?.getD (st0 x.item)) x]:=by rw[Zc3,if_pos rfl];rfl
 have hrow2:∀n,n≠x.item->rowOf (es++[x]) n=rowOf es n:=fun n hn=>by rw[Zc3,if_neg (fun e=>hn e.symm)]
 have hold:∀g,(Value.slice A N cap).ownBlock=some g->F g/\g≠cb/\g≠mb/\G x.item=some (.slice A N cap):=by
  intro g hg;by_cases hr:rowOf es x.item = []
  ·rw[h.none_ _ hr]at hG;cases hG;cases hg
  ·obtain⟨g',cap',e1,_,e2,e3,e4⟩:=h.some_ _ hr;rw[e1]at hG;have e5:Value.slice (some ⟨g',0,none⟩) (rowOf es x.item).length cap' = .slice A N cap:=hG;rw[<-e5]at hg;cases hg;exact⟨e2,e3,e4,by rw[e1,e5]⟩
 obtain⟨gn,cn,hform,_,hlt⟩:=ho.form (Nat.succ_pos _);have hgn:(Value.slice A' (N+1) c').ownBlock=some gn:=by rw[hform];rfl
 have hne:gn≠cb/\gn≠mb:=by
  rcases hv with hv|⟨g,hv,hg⟩
  ·rw[hgn]at hv;exact⟨(hold gn hv.symm).2.1,(hold gn hv.symm).2.2.1⟩
  ·rw[hgn]at hv;cases hv;exact⟨by omega,by omega⟩
 refine⟨?_,?_,?_,Or.inl h.fc,Or.inl h.fm,?_,?_,?_,?_,h.rise.snoc ht,?_,?_⟩
 ·have:(!(es++[x]).isEmpty)=true:=by simp
  rw[this];exact hC
 ·intro l hl;rw[List.getLast?_concat]at hl;cases hl;rfl
 ·have:=hm.congr (mapG_upd G x.item _);rw[List.length_append];exact this
 ·rintro q (hq|hq)
  ·exact Nat.lt_of_lt_of_le (h.lt q hq) hk.size
  ·exact (ho.lt _ hq).2
 ·intro n hn;by_cases e:n=x.item
  ·subst e;rw[hrow]at hn;simp at hn
  ·rw[hrow2 n e]at hn;unfold updG;rw[if_neg e];exact h.none_ n hn
 ·intro n hn;by_cases e:n=x.item
  ·subst e;rw[hrow];have hl:(rowOf es x.item++[stepSt ((rowOf es x.item).getLast?.getD (st0 x.item)) x]).length=N+1:=by simp[hN]
   rw[hl,List.flatMap_append];refine⟨gn,cn,?_,?_,Or.inr hgn,hne.1,hne.2⟩
   ·unfold updG;rw[if_pos rfl,hform]
   ·rw[<-hform];have:[stepSt ((rowOf es x.item).getLast?.getD (st0 x.item)) x].flatMap stC=stC (stepSt ((rowOf es x.item).getLast?.getD (st0 x.item)) x):=by simp
    rw[this];exact ho
  ·rw[hrow2 n e]at hn ⊢;obtain⟨g,cap',e1,e2,e3,e4,e5⟩:=h.some_ n hn;refine⟨g,cap',?_,owns_kept e2 hk (fun g' hg=>?_),Or.inl e3,e4,e5⟩
   ·unfold updG;rw[if_neg e];exact e1
   ·cases hg;rintro (hq|hq|hq)
    ·exact e4 hq
    ·exact e5 hq
    ·exact h.apart n x.item _ _ e e1 (hold g hq).2.2.2 hq.symm
 ·intro n n' v v' hnn hgv hgv';unfold updG at hgv hgv';have key:∀m u,m≠x.item->G m=some u->u.ownBlock≠(Value.slice A' (N+1) c').ownBlock:=by
   intro m u hm hu he;by_cases hr:rowOf es m = []
   ·rw[h.none_ _ hr]at hu;cases hu
   ·obtain⟨g,cap',e1,e2,e3,e4,e5⟩:=h.some_ m hr;rw[e1]at hu;cases hu;rw[hgn]at he;have hgg:g=gn:=Option.some.inj (show some g=some gn from he);rcases hv with hv|⟨g2,hv,hg2⟩
    ·rw[hgn]at hv;exact h.apart m x.item _ _ hm e1 (hold gn hv.symm).2.2.2 (he.trans hv)
    ·rw[hgn]at hv;have h2:gn=g2:=Option.some.inj hv;have:=h.lt _ e3;omega
  by_cases e:n=x.item
  ·rw[if_pos e]at hgv;cases hgv;rw[if_neg (fun e'=>hnn (e.trans e'.symm))]at hgv';exact (key n' v' (fun e'=>hnn (e.trans e'.symm)) hgv').symm
  ·rw[if_neg e]at hgv;by_cases e':n'=x.item
   ·rw[if_pos e']at hgv';cases hgv';exact key n v e hgv
   ·rw[if_neg e']at hgv';exact h.apart n n' v v' hnn hgv hgv'
 ·intro e he;rcases List.mem_append.1 he with he|he
  ·exact h.may e he
  ·obtain rfl:e=x:=by simpa using he
   unfold takesB at ht;rw[Bool.and_eq_true]at ht;exact ht.1
 ·intro e he;rcases List.mem_append.1 he with he|he
  ·exact h.sh e he
  ·obtain rfl:e=x:=by simpa using he
   exact hsx
end Go.Proofs.YtnpfaajhgghpgaaGreatDoor.Ct
