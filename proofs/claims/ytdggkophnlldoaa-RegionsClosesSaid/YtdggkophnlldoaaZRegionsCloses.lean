/- The walk of the law RegionsCloses. -/

